/- The small machine, seventeenth part: rows for rewriting. -/
import Derived.Test.YtojppdcbnpinbaaM16
import Derived.KernelRfl
set_option linter.unusedSimpArgs false
set_option linter.unusedVariables false
namespace Go.Proofs.Ytojppdcbnpinbaa.M
open Go

section
variable {P : Program} {ρ : Env} {H : MH}

theorem ev_tmp {t} : ev ρ (.tmp t) = ρ t := _root_.id rfl
theorem ev_int {k n} : ev ρ (.const (.int k n)) = .lit (.int k n) := _root_.id rfl
theorem ev_bool {b} : ev ρ (.const (.bool b)) = .lit (.bool b) := _root_.id rfl
theorem ev_string {b} : ev ρ (.const (.string b)) = .lit (.string b) := _root_.id rfl
theorem ev_pointer {b} : ev ρ (.const (.pointer b)) = .lit (.pointer b) := _root_.id rfl
theorem ev_slice {a b c} : ev ρ (.const (.slice a b c)) = .lit (.slice a b c) := _root_.id rfl
theorem ev_agg {cs} : ev ρ (.const (.agg ⟨cs⟩)) = .agg (cs.map .lit) := _root_.id rfl
theorem ev_tuple {cs} : ev ρ (.const (.tuple ⟨cs⟩)) = .tup (cs.map .lit) := _root_.id rfl
theorem ev_nilFunc : ev ρ (.const .nilFunc) = .lit .nilFunc := _root_.id rfl
theorem ev_func {f} : ev ρ (.func f) = .fn (.func f) [] [] := _root_.id rfl
theorem evs_mk {l} : evs ρ ⟨l⟩ = l.map (ev ρ) := _root_.id rfl

theorem put_some {d : Tmp} {v : MV} {t : Tmp} : put ρ (some d) v t = if t = d then v else ρ t := _root_.id rfl
theorem put_none {v : MV} : put ρ none v = ρ := _root_.id rfl
theorem args0_get {args : List MV} {t : Nat} : args0 args t = args.getD t (.lit undef) := _root_.id rfl

def nilV : MV → Option MV
  | .ptr p o => some (.ptr p o)
  | _ => none
theorem nilV_ptr {p o} : nilV (.ptr p o) = some (.ptr p o) := _root_.id rfl
def exV (x : MV) (i : Nat) : Option MV := match x with
  | .tup vs => vs[i]?
  | _ => none
theorem exV_tup {vs i} : exV (.tup vs) i = vs[i]? := _root_.id rfl
def faV (k : TK) (x : MV) (i : Nat) : Option MV := match x, k with
  | .ptr p o, .struct fs => match fs[i]? with
    | some (off, sz) => if sz = 0 then none else some (.ptr p (o + off))
    | none => none
  | _, _ => none
theorem faV_ptr {p o fs i} : faV (.struct fs) (.ptr p o) i = match fs[i]? with
    | some (off, sz) => if sz = 0 then none else some (.ptr p (o + off))
    | none => none := _root_.id rfl
def iaV (k : TK) (x i : MV) : Option MV := match x, i, k with
  | .slice p o n _ _, .lit (.int _ j), .slice esz _ _ _ => if 0 ≤ j ∧ j < n then some (.ptr p (o + j.toNat * esz)) else none
  | .ptr p o, .lit (.int _ j), .array n esz => if 0 ≤ j ∧ j < n then some (.ptr p (o + j.toNat * esz)) else none
  | _, _, _ => none
theorem iaV_slice {p o n c z kk j esz eb ez ei} : iaV (.slice esz eb ez ei) (.slice p o n c z) (.lit (.int kk j)) = if 0 ≤ j ∧ j < (n : Int) then some (.ptr p (o + j.toNat * esz)) else none := _root_.id rfl
theorem iaV_array {p o kk j n esz} : iaV (.array n esz) (.ptr p o) (.lit (.int kk j)) = if 0 ≤ j ∧ j < (n : Int) then some (.ptr p (o + j.toNat * esz)) else none := _root_.id rfl
def ixV (k : TK) (x i : MV) : Option MV := match x, i, k with
  | .lit (.string s), .lit (.int _ j), .string => if 0 ≤ j then (s[j.toNat]?).map fun b => .lit (.int .u8 b.toNat) else none
  | _, _, _ => none
theorem ixV_string {s kk j} : ixV .string (.lit (.string s)) (.lit (.int kk j)) = if 0 ≤ j then (s[j.toNat]?).map fun b => .lit (.int .u8 b.toNat) else none := _root_.id rfl
def buildV (T : Ty) (parts : List (Nat × MV)) : Option MV := match T.zero, T.k with
    | some z, .struct fs => (fillM (fs[·]?) (z.map .lit) parts).map .agg
    | some z, .array n e => (fillM (fun i => some (i * e, e)) (z.map .lit) parts).map .agg
    | _, _ => none
def slV (k : TK) (x : MV) (l h : Option MV) : Option MV := match k with
    | .slice esz _ _ _ => sliceV esz x l h
    | _ => none
def pickV (c a b : MV) : Option MV := (asB c).map fun t => if t then a else b
theorem pickV_bool {b x y} : pickV (.lit (.bool b)) x y = some (if b = true then x else y) := _root_.id rfl

variable {Q : MQ} {k : List It} {i : Nat} {L : List Nat} {r : Bool} {d : Option Tmp} {l : List Stp} {F : List (Nat × HF)}

theorem W_move {x} : W P Q (.run (⟨i, L, r, d, .move x, none⟩ :: l) F :: k) ρ H = W P Q (.run l F :: k) (put ρ d (ev ρ x)) H := by rw [W_pure rfl]; simp [pureV]
theorem W_assign {x} : W P Q (.run (⟨i, L, r, d, .assign x, none⟩ :: l) F :: k) ρ H = W P Q (.run l F :: k) (put ρ d (ev ρ x)) H := by rw [W_pure rfl]; simp [pureV]
theorem W_pick {c a b} : W P Q (.run (⟨i, L, r, d, .pick c a b, none⟩ :: l) F :: k) ρ H = ((pickV (ev ρ c) (ev ρ a) (ev ρ b)).isSome = true ∧ W P Q (.run l F :: k) (put ρ d ((pickV (ev ρ c) (ev ρ a) (ev ρ b)).getD default)) H) := by rw [W_pure rfl]; rfl
theorem W_build {t parts} : W P Q (.run (⟨i, L, r, d, .build t parts, none⟩ :: l) F :: k) ρ H =
    ((buildV (ty P t) (parts.toList.map fun x => (x.1, ev ρ x.2))).isSome = true ∧ W P Q (.run l F :: k) (put ρ d ((buildV (ty P t) (parts.toList.map fun x => (x.1, ev ρ x.2))).getD default)) H) := by rw [W_pure rfl]; rfl
theorem W_nilCheck {x} : W P Q (.run (⟨i, L, r, d, .nilCheck x, none⟩ :: l) F :: k) ρ H = ((nilV (ev ρ x)).isSome = true ∧ W P Q (.run l F :: k) (put ρ d ((nilV (ev ρ x)).getD default)) H) := by rw [W_pure rfl]; rfl
theorem W_binOp {op t x y u} : W P Q (.run (⟨i, L, r, d, .binOp op t x y u, none⟩ :: l) F :: k) ρ H = ((binV P op t (ev ρ x) (ev ρ y)).isSome = true ∧ W P Q (.run l F :: k) (put ρ d ((binV P op t (ev ρ x) (ev ρ y)).getD default)) H) := by rw [W_pure rfl]; rfl
theorem W_unOp {op t x} : W P Q (.run (⟨i, L, r, d, .unOp op t x, none⟩ :: l) F :: k) ρ H = ((unV op (ev ρ x)).isSome = true ∧ W P Q (.run l F :: k) (put ρ d ((unV op (ev ρ x)).getD default)) H) := by rw [W_pure rfl]; rfl
theorem W_convert {s t x} : W P Q (.run (⟨i, L, r, d, .convert s t x, none⟩ :: l) F :: k) ρ H = ((convV P s t (ev ρ x)).isSome = true ∧ W P Q (.run l F :: k) (put ρ d ((convV P s t (ev ρ x)).getD default)) H) := by rw [W_pure rfl]; rfl
theorem W_extract {x j} : W P Q (.run (⟨i, L, r, d, .extract x j, none⟩ :: l) F :: k) ρ H = ((exV (ev ρ x) j).isSome = true ∧ W P Q (.run l F :: k) (put ρ d ((exV (ev ρ x) j).getD default)) H) := by rw [W_pure rfl]; rfl
theorem W_fieldAddr {t x j} : W P Q (.run (⟨i, L, r, d, .fieldAddr t x j, none⟩ :: l) F :: k) ρ H = ((faV (ty P t).k (ev ρ x) j).isSome = true ∧ W P Q (.run l F :: k) (put ρ d ((faV (ty P t).k (ev ρ x) j).getD default)) H) := by rw [W_pure rfl]; rfl
theorem W_indexAddr {t x j} : W P Q (.run (⟨i, L, r, d, .indexAddr t x j, none⟩ :: l) F :: k) ρ H = ((iaV (ty P t).k (ev ρ x) (ev ρ j)).isSome = true ∧ W P Q (.run l F :: k) (put ρ d ((iaV (ty P t).k (ev ρ x) (ev ρ j)).getD default)) H) := by rw [W_pure rfl]; rfl
theorem W_index {t x j} : W P Q (.run (⟨i, L, r, d, .index t x j, none⟩ :: l) F :: k) ρ H = ((ixV (ty P t).k (ev ρ x) (ev ρ j)).isSome = true ∧ W P Q (.run l F :: k) (put ρ d ((ixV (ty P t).k (ev ρ x) (ev ρ j)).getD default)) H) := by rw [W_pure rfl]; rfl
theorem W_slice {t x lo hi} : W P Q (.run (⟨i, L, r, d, .slice t x lo hi none, none⟩ :: l) F :: k) ρ H = ((slV (ty P t).k (ev ρ x) (lo.map (ev ρ)) (hi.map (ev ρ))).isSome = true ∧ W P Q (.run l F :: k) (put ρ d ((slV (ty P t).k (ev ρ x) (lo.map (ev ρ)) (hi.map (ev ρ))).getD default)) H) := by rw [W_pure rfl]; rfl
theorem W_makeFunc {f a b} : W P Q (.run (⟨i, L, r, d, .makeFunc f a b, none⟩ :: l) F :: k) ρ H = W P Q (.run l F :: k) (put ρ d (.fn f (evs ρ a) (evs ρ b))) H := by rw [W_pure rfl]; simp [pureV]
theorem W_len {t x} : W P Q (.run (⟨i, L, r, d, .call { callee := .builtin .len, args := #[x], argTypes := #[t] }, none⟩ :: l) F :: k) ρ H = ((lenV P t (ev ρ x)).isSome = true ∧ W P Q (.run l F :: k) (put ρ d ((lenV P t (ev ρ x)).getD default)) H) := by rw [W_pure rfl]; rfl
theorem W_max {x y ats} : W P Q (.run (⟨i, L, r, d, .call { callee := .builtin .max, args := #[x, y], argTypes := ats }, none⟩ :: l) F :: k) ρ H = ((maxM (ev ρ x) (ev ρ y)).isSome = true ∧ W P Q (.run l F :: k) (put ρ d ((maxM (ev ρ x) (ev ρ y)).getD default)) H) := by
  rw [W_pure rfl]
  simp only [pureV, evs, foldV, List.map_cons, List.map_nil]
  cases maxM (ev ρ x) (ev ρ y) <;> simp [foldV]
theorem W_min {x y ats} : W P Q (.run (⟨i, L, r, d, .call { callee := .builtin .min, args := #[x, y], argTypes := ats }, none⟩ :: l) F :: k) ρ H = ((minM (ev ρ x) (ev ρ y)).isSome = true ∧ W P Q (.run l F :: k) (put ρ d ((minM (ev ρ x) (ev ρ y)).getD default)) H) := by
  rw [W_pure rfl]
  simp only [pureV, evs, foldV, List.map_cons, List.map_nil]
  cases minM (ev ρ x) (ev ρ y) <;> simp [foldV]

theorem pv_move {x} : pureV P (.move x) ρ = some (ev ρ x) := _root_.id rfl
theorem pv_assign {x} : pureV P (.assign x) ρ = some (ev ρ x) := _root_.id rfl
theorem pv_pick {c a b} : pureV P (.pick c a b) ρ = pickV (ev ρ c) (ev ρ a) (ev ρ b) := _root_.id rfl
theorem pv_build {t parts} : pureV P (.build t parts) ρ = buildV (ty P t) (parts.toList.map fun x => (x.1, ev ρ x.2)) := _root_.id rfl
theorem pv_nilCheck {x} : pureV P (.nilCheck x) ρ = nilV (ev ρ x) := _root_.id rfl
theorem pv_binOp {op t x y u} : pureV P (.binOp op t x y u) ρ = binV P op t (ev ρ x) (ev ρ y) := _root_.id rfl
theorem pv_unOp {op t x} : pureV P (.unOp op t x) ρ = unV op (ev ρ x) := _root_.id rfl
theorem pv_convert {s t x} : pureV P (.convert s t x) ρ = convV P s t (ev ρ x) := _root_.id rfl
theorem pv_extract {x j} : pureV P (.extract x j) ρ = exV (ev ρ x) j := _root_.id rfl
theorem pv_fieldAddr {t x j} : pureV P (.fieldAddr t x j) ρ = faV (ty P t).k (ev ρ x) j := _root_.id rfl
theorem pv_indexAddr {t x j} : pureV P (.indexAddr t x j) ρ = iaV (ty P t).k (ev ρ x) (ev ρ j) := _root_.id rfl
theorem pv_index {t x j} : pureV P (.index t x j) ρ = ixV (ty P t).k (ev ρ x) (ev ρ j) := _root_.id rfl
theorem pv_slice {t x lo hi} : pureV P (.slice t x lo hi none) ρ = slV (ty P t).k (ev ρ x) (lo.map (ev ρ)) (hi.map (ev ρ)) := _root_.id rfl
theorem pv_len {t x} : pureV P (.call { callee := .builtin .len, args := #[x], argTypes := #[t] }) ρ = lenV P t (ev ρ x) := _root_.id rfl

theorem ite_some {c : Prop} [Decidable c] {a b : MV} : (if c then some a else some b) = some (if c then a else b) := by split <;> rfl
theorem ite_bool {c : Prop} [Decidable c] {a b : Bool} : (if c then MV.lit (.bool a) else MV.lit (.bool b)) = MV.lit (.bool (if c then a else b)) := by split <;> rfl
theorem ite_int {c : Prop} [Decidable c] {k : IntKind} {a b : Int} : (if c then MV.lit (.int k a) else MV.lit (.int k b)) = MV.lit (.int k (if c then a else b)) := by split <;> rfl
theorem pick_undef {c : Prop} [Decidable c] {a b u : MV} : (if c then (if c then a else u) else b) = if c then a else b := by split <;> simp_all
theorem ite_and {c : Prop} [Decidable c] {a : Bool} : (if c then a else false) = (decide c && a) := by split <;> simp_all
theorem ite_or {c : Prop} [Decidable c] {a : Bool} : (if c then true else a) = (decide c || a) := by split <;> simp_all
theorem some_beq {a b : Bool} : ((some a == some b) = true) = (a = b) := by simp

theorem W_alloc {e} : W P Q (.run (⟨i, L, r, d, .alloc e, none⟩ :: l) F :: k) ρ H =
    ((ty P e).zero.isSome = true ∧ W P Q (.run l (hold r (i, .obj H.length (((ty P e).zero.getD []).map .lit)) F) :: k) (put ρ d (.ptr H.length 0)) (H ++ [some ⟨((ty P e).zero.getD []).map .lit, true⟩])) := by
  rw [W_alloc' rfl]
  simp only [allocV]
  cases (ty P e).zero <;> simp
theorem W_box {e x} : W P Q (.run (⟨i, L, r, d, .box e x, none⟩ :: l) F :: k) ρ H =
    W P Q (.run l (hold r (i, .obj H.length (cellsM (ev ρ x))) F) :: k) (put ρ d (.ptr H.length 0)) (H ++ [some ⟨cellsM (ev ρ x), true⟩]) := by
  rw [W_alloc' rfl]
  simp [allocV]
/-- The cells of a slice literal. -/
def bsV (k : TK) (n : Nat) (parts : List (Nat × MV)) : Option (List MV × Nat) := match k with
  | .slice esz _ (some z) _ =>
    if n * esz ≤ 2 ^ 24 ∧ z.length = esz then
      (fillM (fun i => some (i * esz, esz)) ((List.range (n * esz)).map fun i => .lit (z.getD (i % z.length) undef)) parts).bind fun cs => if cs.length = n * esz then some (cs, esz) else none
    else none
  | _ => none
theorem W_buildSlice {t n parts} : W P Q (.run (⟨i, L, r, d, .buildSlice t n parts, none⟩ :: l) F :: k) ρ H =
    ((bsV (ty P t).k n (parts.toList.map fun x => (x.1, ev ρ x.2))).isSome = true ∧
      W P Q (.run l (hold r (i, .obj H.length ((bsV (ty P t).k n (parts.toList.map fun x => (x.1, ev ρ x.2))).getD default).1) F) :: k)
        (put ρ d (.slice H.length 0 n n ((bsV (ty P t).k n (parts.toList.map fun x => (x.1, ev ρ x.2))).getD default).2)) (H ++ [some ⟨((bsV (ty P t).k n (parts.toList.map fun x => (x.1, ev ρ x.2))).getD default).1, true⟩])) := by
  rw [W_alloc' rfl]
  simp only [allocV, bsV]
  cases (ty P t).k with
  | slice esz eb ez ei =>
    cases ez with
    | none => simp
    | some z =>
      simp only
      split
      · cases fillM (fun i => some (i * esz, esz)) ((List.range (n * esz)).map fun i => .lit (z.getD (i % z.length) undef)) (parts.toList.map fun x => (x.1, ev ρ x.2)) with
        | none => simp
        | some cs =>
          simp only [Option.bind_some]
          split <;> simp
      · simp
  | _ => simp
/-- make([]T, n). -/
def msV (k : TK) (x y : MV) : Option (List MV × Nat × Nat) := match k, x, y with
  | .slice esz eb (some z) _, .lit (.int .i64 n), .lit (.int .i64 m) =>
    if n = m ∧ 0 ≤ n ∧ eb * n ≤ 2 ^ 48 ∧ n < 2 ^ 63 ∧ z.length = esz then some ((List.range (n.toNat * esz)).map fun i => .lit (z.getD (i % z.length) undef), n.toNat, esz) else none
  | _, _, _ => none
theorem W_makeSlice {t x y} : W P Q (.run (⟨i, L, r, d, .makeSlice t x y, none⟩ :: l) F :: k) ρ H =
    ((msV (ty P t).k (ev ρ x) (ev ρ y)).isSome = true ∧
      W P Q (.run l (hold r (i, .obj H.length ((msV (ty P t).k (ev ρ x) (ev ρ y)).getD default).1) F) :: k)
        (put ρ d (.slice H.length 0 ((msV (ty P t).k (ev ρ x) (ev ρ y)).getD default).2.1 ((msV (ty P t).k (ev ρ x) (ev ρ y)).getD default).2.1 ((msV (ty P t).k (ev ρ x) (ev ρ y)).getD default).2.2))
        (H ++ [some ⟨((msV (ty P t).k (ev ρ x) (ev ρ y)).getD default).1, true⟩])) := by
  rw [W_alloc' rfl]
  have : allocV P (.makeSlice t x y) ρ = (msV (ty P t).k (ev ρ x) (ev ρ y)).map fun r => (r.1, fun p => .slice p 0 r.2.1 r.2.1 r.2.2) := by
    simp only [allocV, msV]
    generalize (ty P t).k = T
    generalize ev ρ x = X
    generalize ev ρ y = Y
    split
    · simp only
      split <;> rfl
    · rename_i hno
      split
      · rename_i a b c d e f; exact (hno _ _ _ _ _ _ rfl rfl rfl).elim
      · rfl
  rw [this]
  cases msV (ty P t).k (ev ρ x) (ev ρ y) <;> simp
end

theorem replicate_zero {z : Value} {n : Nat} : ((List.range n).map fun i => MV.lit ([z].getD (i % [z].length) undef)) = List.replicate n (.lit z) := by
  apply List.ext_getElem?
  intro i
  simp only [List.length_cons, List.length_nil, Nat.mod_one, List.getElem?_map, List.getElem?_replicate]
  by_cases h : i < n <;> simp [h, List.getD, Nat.mod_one]

theorem ty_ptr {P : Program} {t : TypeId} (h : (ty P t).k = .ptr) : ∃ e, P.underlying t = some (.pointer e) := by
  rw [ty_k] at h
  split at h <;> first | (exact ⟨_, by assumption⟩) | (cases h; done) | (split at h <;> cases h)
/-! ### Numbers -/
section
variable {P : Program} {t : TypeId} {k : IntKind} {a b : Int}
theorem bin_add : binV P .add t (.lit (.int k a)) (.lit (.int k b)) = some (.lit (.int k (k.wrap (a + b)))) := by simp [binV]
theorem bin_sub : binV P .sub t (.lit (.int k a)) (.lit (.int k b)) = some (.lit (.int k (k.wrap (a - b)))) := by simp [binV]
theorem bin_mul : binV P .mul t (.lit (.int k a)) (.lit (.int k b)) = some (.lit (.int k (k.wrap (a * b)))) := by simp [binV]
theorem bin_quo : binV P .quo t (.lit (.int k a)) (.lit (.int k b)) = if b = 0 then none else some (.lit (.int k (k.wrap (a.tdiv b)))) := by simp [binV]
theorem bin_rem : binV P .rem t (.lit (.int k a)) (.lit (.int k b)) = if b = 0 then none else some (.lit (.int k (a.tmod b))) := by simp [binV]
theorem bin_and : binV P .and t (.lit (.int k a)) (.lit (.int k b)) = some (.lit (.int k (bits .and k a b))) := by simp [binV]
theorem bin_or : binV P .or t (.lit (.int k a)) (.lit (.int k b)) = some (.lit (.int k (bits .or k a b))) := by simp [binV]
theorem bin_xor : binV P .xor t (.lit (.int k a)) (.lit (.int k b)) = some (.lit (.int k (bits .xor k a b))) := by simp [binV]
theorem bin_andNot : binV P .andNot t (.lit (.int k a)) (.lit (.int k b)) = some (.lit (.int k (bits .andNot k a b))) := by simp [binV]
theorem beq_dec {a b : Int} : (a == b) = decide (a = b) := by
  by_cases h : a = b <;> simp [h]
theorem bin_eql : binV P .eql t (.lit (.int k a)) (.lit (.int k b)) = some (.lit (.bool (decide (a = b)))) := by simp [binV, beq_dec]
theorem bin_neq : binV P .neq t (.lit (.int k a)) (.lit (.int k b)) = some (.lit (.bool (!decide (a = b)))) := by
  simp only [binV, ne_eq, not_true_eq_false, if_false, bne, beq_dec]
theorem bin_lss : binV P .lss t (.lit (.int k a)) (.lit (.int k b)) = some (.lit (.bool (decide (a < b)))) := by simp [binV]
theorem bin_leq : binV P .leq t (.lit (.int k a)) (.lit (.int k b)) = some (.lit (.bool (decide (a ≤ b)))) := by simp [binV]
theorem bin_gtr : binV P .gtr t (.lit (.int k a)) (.lit (.int k b)) = some (.lit (.bool (decide (a > b)))) := by simp [binV]
theorem bin_geq : binV P .geq t (.lit (.int k a)) (.lit (.int k b)) = some (.lit (.bool (decide (a ≥ b)))) := by simp [binV]
theorem bin_shl {k'} : binV P .shl t (.lit (.int k a)) (.lit (.int k' b)) = if b < 0 then none else some (.lit (.int k (shlV k a b))) := by simp [binV]
theorem bin_shr {k'} : binV P .shr t (.lit (.int k a)) (.lit (.int k' b)) = if b < 0 then none else some (.lit (.int k (shrV k a b))) := by simp [binV]
theorem un_neg : unV .neg (.lit (.int k a)) = some (.lit (.int k (k.wrap (0 - a)))) := _root_.id rfl
theorem un_xor : unV .xor (.lit (.int k a)) = some (.lit (.int k (bits .xor k (if k.signed then -1 else k.max) a))) := _root_.id rfl
theorem un_not {b : Bool} : unV .not (.lit (.bool b)) = some (.lit (.bool !b)) := _root_.id rfl
theorem max_int {k'} : maxM (.lit (.int k a)) (.lit (.int k' b)) = some (.lit (.int k (if b > a then b else a))) := _root_.id rfl
theorem min_int {k'} : minM (.lit (.int k a)) (.lit (.int k' b)) = some (.lit (.int k (if b < a then b else a))) := _root_.id rfl
theorem asB_bool {b : Bool} : asB (.lit (.bool b)) = some b := _root_.id rfl
theorem bin_eql_bl {P : Program} {t : TypeId} {a b : Bool} (h : P.underlying t = some .bool) : binV P .eql t (.lit (.bool a)) (.lit (.bool b)) = some (.lit (.bool (a == b))) := by simp [binV, h]
theorem bin_neq_bl {P : Program} {t : TypeId} {a b : Bool} (h : P.underlying t = some .bool) : binV P .neq t (.lit (.bool a)) (.lit (.bool b)) = some (.lit (.bool (!(a == b)))) := by simp [binV, h]
theorem bin_eql_pn {P : Program} {t : TypeId} {p o : Nat} (h : (ty P t).k = .ptr) : binV P .eql t (.ptr p o) (.lit (.pointer none)) = some (.lit (.bool false)) := by
  obtain ⟨e, he⟩ := ty_ptr h
  simp [binV, he]
theorem bin_neq_pn {P : Program} {t : TypeId} {p o : Nat} (h : (ty P t).k = .ptr) : binV P .neq t (.ptr p o) (.lit (.pointer none)) = some (.lit (.bool true)) := by
  obtain ⟨e, he⟩ := ty_ptr h
  simp [binV, he]
theorem bin_eql_nn {P : Program} {t : TypeId} (h : (ty P t).k = .ptr) : binV P .eql t (.lit (.pointer none)) (.lit (.pointer none)) = some (.lit (.bool true)) := by
  obtain ⟨e, he⟩ := ty_ptr h
  simp [binV, he]
theorem bin_neq_nn {P : Program} {t : TypeId} (h : (ty P t).k = .ptr) : binV P .neq t (.lit (.pointer none)) (.lit (.pointer none)) = some (.lit (.bool false)) := by
  obtain ⟨e, he⟩ := ty_ptr h
  simp [binV, he]
theorem asB_undef : asB (.lit undef) = none := _root_.id rfl
theorem bin_eql_agg' {P : Program} {t : TypeId} {xs ys : List MV} : binV P .eql t (.agg xs) (.agg ys) = if flatB P t && xs.length == nfields P t && ys.length == nfields P t then (eqL xs ys).map fun r => .lit (.bool r) else none := by
  simp only [binV]
  split
  · cases eqL xs ys <;> rfl
  · rfl
theorem bin_neq_agg' {P : Program} {t : TypeId} {xs ys : List MV} : binV P .neq t (.agg xs) (.agg ys) = if flatB P t && xs.length == nfields P t && ys.length == nfields P t then (eqL xs ys).map fun r => .lit (.bool (!r)) else none := by
  simp only [binV]
  split
  · cases eqL xs ys <;> rfl
  · rfl
theorem eqL_nil : eqL [] [] = some true := _root_.id rfl
theorem eqL_cons {k : IntKind} {a b : Int} {xs ys : List MV} : eqL (.lit (.int k a) :: xs) (.lit (.int k b) :: ys) = (eqL xs ys).map fun r => decide (a = b) && r := by
  simp only [eqL, if_true, beq_dec]
theorem nat_beq {a : Nat} : (a == a) = true := by simp
theorem wantS_some {d : Tmp} {w : Bool} {ρ : Env} : wantS (some (some d, w)) ρ = (asB (ρ d) == some w) := _root_.id rfl
theorem mkG_none {full d op t p a} : mkG full ⟨d, op, t, p, a, none⟩ = none := _root_.id rfl
theorem mkG_some {full d op t p a j w} : mkG full ⟨d, op, t, p, a, some (j, w)⟩ = some ((full[j]?).bind (·.dst), w) := _root_.id rfl
theorem cells_agg {vs} : cellsM (.agg vs) = vs := _root_.id rfl
theorem cells_int {k n} : cellsM (.lit (.int k n)) = [.lit (.int k n)] := _root_.id rfl
theorem cells_bool {b} : cellsM (.lit (.bool b)) = [.lit (.bool b)] := _root_.id rfl
theorem cells_string {b} : cellsM (.lit (.string b)) = [.lit (.string b)] := _root_.id rfl
theorem cells_slice {p o n c z} : cellsM (.slice p o n c z) = [.slice p o n c z] := _root_.id rfl
theorem cells_ptr {p o} : cellsM (.ptr p o) = [.ptr p o] := _root_.id rfl
theorem cells_nils {a b c} : cellsM (.lit (.slice a b c)) = [.lit (.slice a b c)] := _root_.id rfl
theorem cells_nilp {a} : cellsM (.lit (.pointer a)) = [.lit (.pointer a)] := _root_.id rfl
theorem cells_fn {f a b} : cellsM (.fn f a b) = [.fn f a b] := _root_.id rfl
end
/-! ### Rows of the core library, told anew: the kernel is not to find them by unfolding -/
section
variable {α β : Type} {a b : α} {f : α → β} {l m : List α} {n : Nat}
theorem s_isSome : (some a).isSome = true := _root_.id rfl
theorem s_isNone : (none : Option α).isSome = false := _root_.id rfl
theorem s_getD : (some a).getD b = a := _root_.id rfl
theorem s_omap : (some a).map f = some (f a) := _root_.id rfl
theorem s_obind {g : α → Option β} : (some a).bind g = g a := _root_.id rfl
theorem s_onone {g : α → Option β} : (none : Option α).bind g = none := _root_.id rfl
theorem s_join : (some (some a)).join = some a := _root_.id rfl
theorem s_join0 : (some none : Option (Option α)).join = none := _root_.id rfl
theorem s_join1 : (none : Option (Option α)).join = none := _root_.id rfl
theorem s_lgetD0 : (a :: l).getD 0 b = a := _root_.id rfl
theorem s_lgetDs : (a :: l).getD (n + 1) b = l.getD n b := by simp [List.getD]
theorem s_lgetDn : ([] : List α).getD n b = b := by simp [List.getD]
theorem s_map0 : ([] : List α).map f = [] := _root_.id rfl
theorem s_maps : (a :: l).map f = f a :: l.map f := _root_.id rfl
theorem s_get0 : (a :: l)[0]? = some a := _root_.id rfl
theorem s_gets : (a :: l)[n + 1]? = l[n]? := _root_.id rfl
theorem s_getn : ([] : List α)[n]? = none := _root_.id rfl
theorem s_len0 : ([] : List α).length = 0 := _root_.id rfl
theorem s_lens : (a :: l).length = l.length + 1 := _root_.id rfl
theorem s_drop0 : l.drop 0 = l := _root_.id rfl
theorem s_drops : (a :: l).drop (n + 1) = l.drop n := _root_.id rfl
theorem s_take0 : l.take 0 = [] := by simp
theorem s_takes : (a :: l).take (n + 1) = a :: l.take n := _root_.id rfl
theorem s_taken : ([] : List α).take n = [] := by simp
theorem s_set0 : (a :: l).set 0 b = b :: l := _root_.id rfl
theorem s_sets : (a :: l).set (n + 1) b = a :: l.set n b := _root_.id rfl
theorem s_app0 : ([] : List α) ++ l = l := _root_.id rfl
theorem s_apps : (a :: l) ++ m = a :: (l ++ m) := _root_.id rfl
theorem s_zip0 : ([] : List α).zipIdx n = [] := _root_.id rfl
theorem s_zips : (a :: l).zipIdx n = (a, n) :: l.zipIdx (n + 1) := by simp
theorem s_fold0 {γ : Type} {g : γ → α → γ} {c : γ} : ([] : List α).foldl g c = c := _root_.id rfl
theorem s_folds {γ : Type} {g : γ → α → γ} {c : γ} : (a :: l).foldl g c = l.foldl g (g c a) := _root_.id rfl
theorem s_all0 {p : α → Bool} : ([] : List α).all p = true := _root_.id rfl
theorem s_alls {p : α → Bool} : (a :: l).all p = (p a && l.all p) := by simp
theorem s_fst {x : α} {y : β} : (x, y).1 = x := _root_.id rfl
theorem s_snd {x : α} {y : β} : (x, y).2 = y := _root_.id rfl
end
theorem cls_move {x} : cls (.move x) = .pure := _root_.id rfl
theorem cls_assign {x} : cls (.assign x) = .pure := _root_.id rfl
theorem cls_pick {a b c} : cls (.pick a b c) = .pure := _root_.id rfl
theorem cls_build {a b} : cls (.build a b) = .pure := _root_.id rfl
theorem cls_nilCheck {a} : cls (.nilCheck a) = .pure := _root_.id rfl
theorem cls_binOp {a b c d e} : cls (.binOp a b c d e) = .pure := _root_.id rfl
theorem cls_unOp {a b c} : cls (.unOp a b c) = .pure := _root_.id rfl
theorem cls_convert {a b c} : cls (.convert a b c) = .pure := _root_.id rfl
theorem cls_extract {a b} : cls (.extract a b) = .pure := _root_.id rfl
theorem cls_fieldAddr {a b c} : cls (.fieldAddr a b c) = .pure := _root_.id rfl
theorem cls_field {a b c} : cls (.field a b c) = .pure := _root_.id rfl
theorem cls_indexAddr {a b c} : cls (.indexAddr a b c) = .pure := _root_.id rfl
theorem cls_index {a b c} : cls (.index a b c) = .pure := _root_.id rfl
theorem cls_slice {a b c d e} : cls (.slice a b c d e) = .pure := _root_.id rfl
theorem cls_len {a b} : cls (.call { callee := .builtin .len, args := a, argTypes := b }) = .pure := _root_.id rfl
theorem cls_max {a b} : cls (.call { callee := .builtin .max, args := a, argTypes := b }) = .pure := _root_.id rfl
theorem cls_min {a b} : cls (.call { callee := .builtin .min, args := a, argTypes := b }) = .pure := _root_.id rfl
theorem cls_load {a b} : cls (.load a b) = .load := _root_.id rfl
theorem cls_store {a b c} : cls (.store a b c) = .eff := _root_.id rfl
theorem cls_call {f a b} : cls (.call { callee := .value f, args := a, argTypes := b }) = .eff := _root_.id rfl
theorem cls_append {a b} : cls (.call { callee := .builtin .append, args := a, argTypes := b }) = .eff := _root_.id rfl
theorem cls_alloc {a} : cls (.alloc a) = .alloc := _root_.id rfl
theorem cls_box {a b} : cls (.box a b) = .alloc := _root_.id rfl
theorem cls_buildSlice {a b c} : cls (.buildSlice a b c) = .alloc := _root_.id rfl

/-! ### What the walk unfolds, told as rows -/
theorem stps_nil {full : List Oper} : stps full [] = [] := _root_.id rfl
theorem stps_cons {full : List Oper} {o l} : stps full (o :: l) = ⟨0, [], false, o.dst, o.op, mkG full o⟩ :: stps full l := _root_.id rfl
theorem vstps_nil {ops R} : vstps ops R [] = [] := _root_.id rfl
theorem vstps_cons {ops : List Oper} {R i L l} : vstps ⟨ops⟩ R ((i, L) :: l) = ⟨i, L, R.contains i, (ops.getD i default).dst, (ops.getD i default).op, mkG ops (ops.getD i default)⟩ :: vstps ⟨ops⟩ R l := by
  simp [vstps]
theorem o_dst {d op t p a g} : (Oper.mk d op t p a g).dst = d := _root_.id rfl
theorem o_op {d op t p a g} : (Oper.mk d op t p a g).op = op := _root_.id rfl
theorem hold_t {x F} : hold true x F = x :: F := _root_.id rfl
theorem hold_f {x F} : hold false x F = F := _root_.id rfl
theorem held_cons {P L H x F} : held P L H (x :: F) = ((x.1 ∈ L → x.2.sem P H) ∧ held P L H F) := _root_.id rfl
theorem held_nil' {P L H} : held P L H [] = True := _root_.id rfl
theorem sem_load {P t x v H} : (HF.load t x v).sem P H = (loadV P t x H = some v) := _root_.id rfl
theorem sem_obj {P p cs H} : (HF.obj p cs).sem P H = (hget H p = some ⟨cs, true⟩) := _root_.id rfl
theorem buildV_eq {T parts} : buildV T parts = match T.zero, T.k with
    | some z, .struct fs => (fillM (fs[·]?) (z.map .lit) parts).map .agg
    | some z, .array n e => (fillM (fun i => some (i * e, e)) (z.map .lit) parts).map .agg
    | _, _ => none := _root_.id rfl
theorem fillM_nil {pl cs} : fillM pl cs [] = some cs := _root_.id rfl
theorem fillM_cons {pl cs i v rest} : fillM pl cs ((i, v) :: rest) = match pl i with
    | none => none
    | some (off, size) => if (cellsM v).length ≠ size || off + (cellsM v).length > cs.length then none else fillM pl ((cellsM v).zipIdx.foldl (fun cs (c, j) => cs.set (off + j) c) cs) rest := _root_.id rfl
theorem slV_slice {a b c d x l h} : slV (.slice a b c d) x l h = sliceV a x l h := _root_.id rfl
theorem loadV_ptr {P t p o H} : loadV P t (.ptr p o) H = if (ty P t).known then
      if (ty P t).agg then
        match (ty P t).sz with
        | some n => (cellsAt H p o n).map .agg
        | none => none
      else (hget H p).bind fun ob => ob.cells[o]?
    else none := _root_.id rfl
theorem cellsAt_eq {H p o n} : cellsAt H p o n = (hget H p).bind fun ob => if o + n ≤ ob.cells.length then some ((ob.cells.drop o).take n) else none := _root_.id rfl
theorem mo_cells {c r} : (MO.mk c r).cells = c := _root_.id rfl
theorem mo_rw {c r} : (MO.mk c r).rw = r := _root_.id rfl
theorem storeV_ptr {P t p o v H} : storeV P t (.ptr p o) v H = match hget H p, (ty P t).sz with
    | some ob, some n => if ob.rw = true ∧ (cellsM v).length = n ∧ (cellsM v).all one = true ∧ o + n ≤ ob.cells.length then some (H.set p (some ⟨setL ob.cells o (cellsM v), true⟩)) else none
    | _, _ => none := _root_.id rfl
theorem setL_nil {cs o} : setL cs o [] = cs := _root_.id rfl
theorem setL_cons {cs o v vs} : setL cs o (v :: vs) = setL (cs.set o v) (o + 1) vs := _root_.id rfl
theorem one_int {k n} : one (.lit (.int k n)) = true := _root_.id rfl
theorem one_bool {b} : one (.lit (.bool b)) = true := _root_.id rfl
theorem one_string {b} : one (.lit (.string b)) = true := _root_.id rfl
theorem one_nilp {b} : one (.lit (.pointer b)) = true := _root_.id rfl
theorem one_nils {a b c} : one (.lit (.slice a b c)) = true := _root_.id rfl
theorem one_slice {p o n c z} : one (.slice p o n c z) = true := _root_.id rfl
theorem one_ptr {p o} : one (.ptr p o) = true := _root_.id rfl
theorem one_fn {f a b} : one (.fn f a b) = true := _root_.id rfl
theorem lenV_eq {P t x} : lenV P t x = match x, (ty P t).k with
  | .slice _ _ n _ _, .slice .. => some (.lit (.int .i64 n))
  | .lit (.slice _ n _), .slice .. => some (.lit (.int .i64 n))
  | .lit (.string s), .string => some (.lit (.int .i64 s.size))
  | _, .array n _ => some (.lit (.int .i64 n))
  | _, _ => none := _root_.id rfl
theorem convV_eq {P s d x} : convV P s d x = match x, (P.underlying s).isSome, (ty P d).k with
  | .lit (.int _ n), true, .int k => some (.lit (.int k (k.wrap n)))
  | _, _, _ => none := _root_.id rfl
theorem known_eq {P t} : (P.underlying t).isSome = (ty P t).known := _root_.id rfl
theorem ty_sz {a b c d e} : (Ty.mk a b c d e).sz = a := _root_.id rfl
theorem ty_zero {a b c d e} : (Ty.mk a b c d e).zero = b := _root_.id rfl
theorem ty_known {a b c d e} : (Ty.mk a b c d e).known = c := _root_.id rfl
theorem ty_aggr {a b c d e} : (Ty.mk a b c d e).agg = d := _root_.id rfl
theorem ty_kind {a b c d e} : (Ty.mk a b c d e).k = e := _root_.id rfl
theorem retQ_ret {P rs K ρ H} : retQ P rs K .ret ρ H = ∃ vs, ress P ρ H rs = some vs ∧ K (tupM vs) H := _root_.id rfl
theorem retQ_normal {P rs K ρ H} : retQ P rs K .normal ρ H = ∃ vs, ress P ρ H rs = some vs ∧ K (tupM vs) H := _root_.id rfl
theorem ress_nil {P ρ H} : ress P ρ H [] = some [] := _root_.id rfl
theorem ress_cons {P ρ H r rs} : ress P ρ H (r :: rs) = match resV P ρ H r, ress P ρ H rs with
    | some v, some vs => some (v :: vs)
    | _, _ => none := _root_.id rfl
theorem resV_tmp {P ρ H t} : resV P ρ H (.tmp t) = some (ρ t) := _root_.id rfl
theorem resV_cell {P ρ H a t} : resV P ρ H (.cell a t) = loadV P t (ρ a) H := _root_.id rfl
theorem tupM_1 {v} : tupM [v] = v := _root_.id rfl
theorem tupM_0 : tupM [] = .tup [] := _root_.id rfl
theorem tupM_2 {u v l} : tupM (u :: v :: l) = .tup (u :: v :: l) := _root_.id rfl
theorem sliceV_eq {esz x l h} : sliceV esz x l h = match x with
  | .slice p o n c z =>
    if z = esz then
      match h, l with
      | none, none => some x
      | none, some (.lit (.int _ i)) => if 0 ≤ i ∧ i ≤ n then some (.slice p (if c = i.toNat then o else o + i.toNat * z) (n - i.toNat) (c - i.toNat) z) else none
      | some (.lit (.int _ j)), none => if 0 ≤ j ∧ j ≤ n then some (.slice p o j.toNat c z) else none
      | some (.lit (.int _ j)), some (.lit (.int _ i)) => if 0 ≤ i ∧ i ≤ j ∧ j ≤ n then some (.slice p (if c = i.toNat then o else o + i.toNat * z) (j.toNat - i.toNat) (c - i.toNat) z) else none
      | _, _ => none
    else none
  | _ => none := _root_.id rfl
end Go.Proofs.Ytojppdcbnpinbaa.M
