/- The small machine, third part: operations that look at no memory are met by the real ones. -/
import Derived.Test.YtojppdcbnpinbaaM2
set_option linter.unusedSimpArgs false
set_option linter.unusedVariables false
namespace Go.Proofs.Ytojppdcbnpinbaa.M
open Go

theorem ty_k {P : Program} {t : TypeId} : (ty P t).k = match P.underlying t with
    | some (.struct fs) => if fs.all (fun f => (P.info? f.type).isSome) then .struct (fs.toList.map fun f => (f.offset, szOf P f.type)) else .other
    | some (.slice e) => match P.info? e with
      | some i => .slice i.size i.bytes (i.zero.map (·.cells.toList)) ((P.underlying e) matches some (.int _))
      | _ => .other
    | some (.array n e) => match P.info? e with
      | some i => .array n i.size
      | _ => .other
    | some .string => .string
    | some (.int k) => .int k
    | some .bool => .bool
    | some (.pointer _) => .ptr
    | some _ => .other
    | _ => .none := rfl

theorem ty_struct {P : Program} {t : TypeId} {fs : List (Nat × Nat)} (h : (ty P t).k = .struct fs) :
    ∃ g, P.underlying t = some (.struct g) ∧ (∀ f ∈ g.toList, (P.info? f.type).isSome = true) ∧ fs = g.toList.map fun f => (f.offset, szOf P f.type) := by
  rw [ty_k] at h
  split at h <;> try (cases h; done)
  · rename_i g hg
    split at h
    · rename_i hall
      cases h
      exact ⟨g, hg, fun f hf => by simpa using (Array.all_eq_true_iff_forall_mem.1 hall f (Array.mem_toList_iff.1 hf)), rfl⟩
    · cases h
  · split at h <;> cases h
  · split at h <;> cases h

theorem ty_slice {P : Program} {t : TypeId} {a b c d} (h : (ty P t).k = .slice a b c d) :
    ∃ e i, P.underlying t = some (.slice e) ∧ P.info? e = some i ∧ a = i.size ∧ b = i.bytes ∧ c = i.zero.map (·.cells.toList) ∧ d = ((P.underlying e) matches some (.int _)) := by
  rw [ty_k] at h
  split at h <;> try (cases h; done)
  · split at h <;> cases h
  · rename_i e he
    split at h
    · rename_i i hi
      cases h
      exact ⟨e, i, he, hi, rfl, rfl, rfl, rfl⟩
    · cases h
  · split at h <;> cases h

theorem ty_array {P : Program} {t : TypeId} {n e} (h : (ty P t).k = .array n e) :
    ∃ u i, P.underlying t = some (.array n u) ∧ P.info? u = some i ∧ e = i.size := by
  rw [ty_k] at h
  split at h <;> try (cases h; done)
  · split at h <;> cases h
  · split at h <;> cases h
  · rename_i n' u hu
    split at h
    · rename_i i hi
      cases h
      exact ⟨u, i, hu, hi, rfl⟩
    · cases h

theorem ty_string {P : Program} {t : TypeId} (h : (ty P t).k = .string) : P.underlying t = some .string := by
  rw [ty_k] at h
  split at h <;> first | assumption | (cases h; done) | (split at h <;> cases h)
theorem ty_int {P : Program} {t : TypeId} {k} (h : (ty P t).k = .int k) : P.underlying t = some (.int k) := by
  rw [ty_k] at h
  split at h <;> first | (cases h; assumption) | (cases h; done) | (split at h <;> cases h)

theorem run_sizeOf {P : Program} {t : TypeId} {i : TypeInfo} (h : P.info? t = some i) (w : World) : (sizeOf t).run P w = .ok i.size w := by
  simp [sizeOf, typeInfo, h]
theorem run_typeInfo {P : Program} {t : TypeId} {i : TypeInfo} (h : P.info? t = some i) (w : World) : (typeInfo t).run P w = .ok i w := by
  simp [typeInfo, h]
theorem run_zeroValue {P : Program} {t : TypeId} {z : List Value} (h : (ty P t).zero = some z) (w : World) : ∃ v, (zeroValue t).run P w = .ok v w ∧ v.cells = z.toArray := by
  have h' : ((P.info? t).bind (·.zero)).map (·.cells.toList) = some z := h
  cases hi : P.info? t with
  | none => rw [hi] at h'; simp at h'
  | some i =>
    rw [hi] at h'
    simp only [Option.bind_some, Option.map_eq_some_iff] at h'
    obtain ⟨v, hv, hz⟩ := h'
    exact ⟨v, by simp [zeroValue, typeInfo, hi, hv], by rw [← hz]⟩

theorem run_isAgg {P : Program} {t : TypeId} (h : (ty P t).known = true) (w : World) : (isAgg t).run P w = .ok (ty P t).agg w := by
  obtain ⟨d, hd⟩ := Option.isSome_iff_exists.1 (show (P.underlying t).isSome = true from h)
  show _ = Result.ok (match P.underlying t with | some (.struct _) | some (.array _ _) => true | _ => false) w
  cases d <;> simp [isAgg, underlying, hd]

theorem eqL_sound {P : Program} {d : Nat} : ∀ (fs : List Field) (i : Nat) (xs ys : List MV) (pre pre' : List Value) (μ : Mu) (r : Bool) (w : World),
    (fs.zipIdx i).all (fun (f, i) => f.name != "_" && f.offset == i && (match P.underlying f.type with | some (.int _) => true | _ => false)) = true →
    xs.length = fs.length → ys.length = fs.length → pre.length = i → pre'.length = i → eqL xs ys = some r →
    (Op.eqFields (d + 1) (pre ++ concs μ xs).toArray (pre' ++ concs μ ys).toArray fs).run P w = .ok r w
  | [], _, xs, ys, pre, pre', μ, r, w, _, hx, hy, _, _, he => by
    simp only [List.length_nil, List.length_eq_zero_iff] at hx hy
    subst hx; subst hy
    simp only [eqL, Option.some.injEq] at he
    subst he
    simp [Op.eqFields]
  | f :: fs, i, x :: xs, y :: ys, pre, pre', μ, r, w, h, hx, hy, hp, hp', he => by
    simp only [List.zipIdx_cons, List.all_cons, Bool.and_eq_true, bne_iff_ne, ne_eq, beq_iff_eq] at h
    obtain ⟨⟨⟨hn, ho⟩, hb⟩, hr⟩ := h
    have hu : ∃ k, P.underlying f.type = some (.int k) := by
      cases hu : P.underlying f.type with
      | none => rw [hu] at hb; simp at hb
      | some dd => rw [hu] at hb; cases dd <;> simp at hb; simp
    obtain ⟨k0, hu⟩ := hu
    have hagg : (isAgg f.type).run P w = .ok false w := by simp [isAgg, underlying, hu]
    have hpart : ∀ (pre : List Value) (x : MV) (xs : List MV), pre.length = i → (part f.type (pre ++ concs μ (x :: xs)).toArray f.offset).run P w = .ok (conc μ x) w := by
      intro pre x xs hl
      subst ho
      simp [part, hagg, concs, hl.symm]
    have hrest : ∀ r', eqL xs ys = some r' → (Op.eqFields (d + 1) (pre ++ concs μ (x :: xs)).toArray (pre' ++ concs μ (y :: ys)).toArray fs).run P w = .ok r' w := by
      intro r' hr'
      have := eqL_sound (P := P) (d := d) fs (i + 1) xs ys (pre ++ [conc μ x]) (pre' ++ [conc μ y]) μ r' w (by simpa using hr) (by simpa using hx) (by simpa using hy) (by simp [hp]) (by simp [hp']) hr'
      simpa [concs] using this
    simp only [Op.eqFields, if_pos hn, Sem.run_bind, hpart pre x xs hp, hpart pre' y ys hp', Result.andThen_ok]
    unfold eqL at he
    split at he
    · rename_i h1 h2; cases h1
    · rename_i k a xs' k' b ys' h1 h2
      cases h1; cases h2
      split at he
      · rename_i hk
        subst hk
        simp only [Option.map_eq_some_iff] at he
        obtain ⟨r', hr', hre⟩ := he
        simp only [conc, run_equalIn_int w d f.type k k0 a b hu, Result.andThen_ok]
        cases hab : (a == b)
        · rw [hab] at hre
          simp only [Bool.false_and] at hre
          subst hre
          simp
        · rw [hab] at hre
          simp only [Bool.true_and] at hre
          subst hre
          simpa [conc] using hrest r' hr'
      · cases he
    · cases he
  | _ :: _, _, [], _, _, _, _, _, _, _, hx, _, _, _, _ => by simp at hx
  | _ :: _, _, _ :: _, [], _, _, _, _, _, _, _, hy, _, _, _ => by simp at hy

theorem eqGuard_agg {P : Program} {op : BinOp} {t : TypeId} {x y : Operand} {xs ys : Array Value} (h : P.eqGuardType P.depth t = false) (w : World) :
    (eqGuard op t x y (.agg xs) (.agg ys)).run P w = .ok () w := by
  cases op <;> simp [eqGuard, h]

theorem equal_bool {P : Program} {t : TypeId} (hu : P.underlying t = some .bool) (a b : Bool) (w : World) : (Op.equal t (.bool a) (.bool b)).run P w = .ok (a == b) w :=
  run_equalIn_bool' w 9999 t a b hu
theorem equalIn_nil {P : Program} {t e : TypeId} (d : Nat) (hu : P.underlying t = some (.pointer e)) (w : World) : (Op.equalIn (d + 1) t (.pointer none) (.pointer none)).run P w = .ok true w := by
  simp [Op.equalIn, underlying, hu]
theorem equalIn_ptr {P : Program} {t e : TypeId} (d : Nat) (hu : P.underlying t = some (.pointer e)) (a : Addr) (w : World) : (Op.equalIn (d + 1) t (.pointer (some a)) (.pointer none)).run P w = .ok false w := by
  simp [Op.equalIn, underlying, hu]
theorem equal_nil {P : Program} {t e : TypeId} (hu : P.underlying t = some (.pointer e)) (w : World) : (Op.equal t (.pointer none) (.pointer none)).run P w = .ok true w := equalIn_nil 9999 hu w
theorem equal_ptr {P : Program} {t e : TypeId} (hu : P.underlying t = some (.pointer e)) (a : Addr) (w : World) : (Op.equal t (.pointer (some a)) (.pointer none)).run P w = .ok false w := equalIn_ptr 9999 hu a w
theorem bin_eql_bool (t : TypeId) (a b : Bool) : binOp .eql t (.bool a) (.bool b) = (do pure (.bool (← Op.equal t (.bool a) (.bool b)))) := rfl
theorem bin_neq_bool (t : TypeId) (a b : Bool) : binOp .neq t (.bool a) (.bool b) = (do pure (.bool (!(← Op.equal t (.bool a) (.bool b))))) := rfl
theorem bin_eql_ptr (t : TypeId) (a b : Option Addr) : binOp .eql t (.pointer a) (.pointer b) = (do pure (.bool (← Op.equal t (.pointer a) (.pointer b)))) := rfl
theorem bin_neq_ptr (t : TypeId) (a b : Option Addr) : binOp .neq t (.pointer a) (.pointer b) = (do pure (.bool (!(← Op.equal t (.pointer a) (.pointer b))))) := rfl
theorem bin_eql_agg (t : TypeId) (a b : Array Value) : binOp .eql t (.agg a) (.agg b) = (do pure (.bool (← Op.equal t (.agg a) (.agg b)))) := rfl
theorem bin_neq_agg (t : TypeId) (a b : Array Value) : binOp .neq t (.agg a) (.agg b) = (do pure (.bool (!(← Op.equal t (.agg a) (.agg b))))) := rfl

theorem binV_sound {P : Program} {op : BinOp} {t : TypeId} {x y : MV} {v : MV} (h : binV P op t x y = some v) (μ : Mu) (hx : Ok μ x) (ox oy : Operand) (w : World) :
    ((do eqGuard op t ox oy (conc μ x) (conc μ y); binOp op t (conc μ x) (conc μ y) : Sem Value)).run P w = .ok (conc μ v) w ∧ Ok μ v := by
  unfold binV at h
  split at h
  · rename_i k a k' b
    simp only [conc]
    split at h
    · split at h
      · cases h
      · rename_i hb
        cases h
        simp [eqGuard, binOp, Op.shift, hb, conc, Ok, shlV]
    · split at h
      · cases h
      · rename_i hb
        cases h
        simp [eqGuard, binOp, Op.shift, hb, conc, Ok, shrV]
    · split at h
      · cases h
      · rename_i hn1 hn2 hk
        simp only [ne_eq, Decidable.not_not] at hk
        subst hk
        cases op <;> simp only [Option.some.injEq, reduceCtorEq] at h <;> first
          | (subst h; simp [eqGuard, binOp, Op.intArith, Op.intBits, Op.intCmp, conc, Ok, bits]; done)
          | (split at h <;> first | (cases h; done) | (rename_i hb; cases h; simp [eqGuard, binOp, Op.intDiv, hb, conc, Ok]; done))
          | exact absurd rfl (hn1)
          | exact absurd rfl (hn2)
          | skip
  · rename_i a b
    simp only [conc]
    have hg : ∀ op, (eqGuard op t ox oy (.bool a) (.bool b)) = pure () := fun op => by cases op <;> rfl
    split at h
    · rename_i hu
      cases h
      simp [hg, bin_eql_bool, bin_neq_bool, equal_bool hu, conc, Ok]
    · rename_i hu
      cases h
      simp [hg, bin_eql_bool, bin_neq_bool, equal_bool hu, conc, Ok]
    · cases h
  · rename_i p o
    simp only [conc]
    have hg : ∀ op a, (eqGuard op t ox oy (.pointer a) (.pointer none)) = pure () := fun op a => by cases op <;> rfl
    obtain ⟨l, hl⟩ := by simpa [Ok] using hx
    have hl : loc μ p o = some ⟨l.b, l.off + o, none⟩ := by simp [loc, hl]
    rw [hl]
    · split at h
      · rename_i hu
        cases h
        simp [hg, bin_eql_ptr, bin_neq_ptr, equal_nil hu, equal_ptr hu, conc, Ok]
      · rename_i hu
        cases h
        simp [hg, bin_eql_ptr, bin_neq_ptr, equal_nil hu, equal_ptr hu, conc, Ok]
      · cases h
  · simp only [conc]
    have hg : ∀ op a, (eqGuard op t ox oy (.pointer a) (.pointer none)) = pure () := fun op a => by cases op <;> rfl
    split at h
    · rename_i hu
      cases h
      simp [hg, bin_eql_ptr, bin_neq_ptr, equal_nil hu, equal_ptr hu, conc, Ok]
    · rename_i hu
      cases h
      simp [hg, bin_eql_ptr, bin_neq_ptr, equal_nil hu, equal_ptr hu, conc, Ok]
    · cases h
  · rename_i xs ys
    split at h
    · rename_i hf
      simp only [Bool.and_eq_true, beq_iff_eq] at hf
      obtain ⟨⟨hf, hx⟩, hy⟩ := hf
      unfold flatB at hf
      cases hu : P.underlying t with
      | none => rw [hu] at hf; simp at hf
      | some d =>
        cases d <;> (rw [hu] at hf; simp only [Bool.false_eq_true] at hf)
        rename_i fs
        simp only [Bool.and_eq_true, Bool.not_eq_true'] at hf
        obtain ⟨⟨hs, hg⟩, hall⟩ := hf
        simp only [nfields, hu] at hx hy
        have heq : ∀ r, eqL xs ys = some r → (Op.equal t (.agg (concs μ xs).toArray) (.agg (concs μ ys).toArray)).run P w = .ok r w := by
          intro r hr
          have h0 := run_equalIn_struct (P := P) w (9998 + 1) t (concs μ xs).toArray (concs μ ys).toArray (by simp [Program.fieldsOf, hu]) hs
          have h1 : P.fieldsOf t = fs := by simp [Program.fieldsOf, hu]
          rw [h1] at h0
          have h2 := eqL_sound (P := P) (d := 9998) fs.toList 0 xs ys [] [] μ r w hall (by simpa using hx) (by simpa using hy) rfl rfl hr
          simp only [List.nil_append] at h2
          rw [h2] at h0
          exact h0
        simp only [conc]
        split at h
        · rename_i r hr
          cases h
          simp [eqGuard_agg hg, bin_eql_agg, bin_neq_agg, heq r hr, conc, Ok]
        · rename_i r hr
          cases h
          simp [eqGuard_agg hg, bin_eql_agg, bin_neq_agg, heq r hr, conc, Ok]
        · cases h
    · cases h
  · cases h

end Go.Proofs.Ytojppdcbnpinbaa.M
