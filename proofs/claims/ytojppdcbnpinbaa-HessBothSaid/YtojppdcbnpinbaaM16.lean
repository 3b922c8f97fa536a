/- The small machine, sixteenth part: the walk as a list of what is still to do, for rewriting. -/
import Derived.Test.YtojppdcbnpinbaaM15
import Derived.KernelRfl
set_option linter.unusedSimpArgs false
set_option linter.unusedVariables false
namespace Go.Proofs.Ytojppdcbnpinbaa.M
open Go

inductive It where
  | code (c : Code)
  | run (l : List Stp) (F : List (Nat × HF))
  | blk (id : Nat)
  | back (J : Env → MH → Prop)
  | rnd (n : Nat) (c : Code)

def WQ (P : Program) (Q : MQ) : List It → MQ
  | [] => Q
  | .code c :: k => fun m ρ H => match m with
    | .normal => mwp P c (WQ P Q k) ρ H
    | m => WQ P Q k m ρ H
  | .run l F :: k => fun m ρ H => match m with
    | .normal => rM P l F ρ H (WQ P Q k .normal)
    | m => WQ P Q k m ρ H
  | .blk id :: k => blockQ id (WQ P Q k)
  | .back J :: k => fun m ρ H => match m with
    | .normal => J ρ H
    | m => WQ P Q k m ρ H
  | .rnd n c :: k => fun m ρ H => match m with
    | .normal => loopN (mwp P c) (WQ P Q k) n ρ H
    | m => WQ P Q k m ρ H

/-- The walk of what is to do comes to Q. -/
def W (P : Program) (Q : MQ) (k : List It) (ρ : Env) (H : MH) : Prop := WQ P Q k .normal ρ H
/-- The walk leaves block id. -/
def WX (P : Program) (Q : MQ) (id : Nat) (k : List It) (ρ : Env) (H : MH) : Prop := WQ P Q k (.exit id) ρ H

/-- A call. -/
def CallK (P : Program) (Q : MQ) (f : MV) (args : List MV) (d : Option Tmp) (L : List Nat) (l : List Stp) (F : List (Nat × HF)) (k : List It) (ρ : Env) (H : MH) : Prop :=
  match f with
  | .fn (.func g) a b => Spec P g (a ++ args ++ b) H fun v H' => held P L H' F ∧ W P Q (.run l F :: k) (put ρ d v) H'
  | _ => False

section
variable {P : Program} {Q : MQ} {k : List It} {ρ : Env} {H : MH}

theorem W_nil : W P Q [] ρ H = Q .normal ρ H := _root_.id rfl
theorem W_skip : W P Q (.code .skip :: k) ρ H = W P Q k ρ H := _root_.id rfl
theorem W_seq {x y : Code} : W P Q (.code (.seq x y) :: k) ρ H = W P Q (.code x :: .code y :: k) ρ H := by
  show mwp P x (thenQ (mwp P y) (WQ P Q k)) ρ H = mwp P x (WQ P Q (.code y :: k)) ρ H
  have : thenQ (mwp P y) (WQ P Q k) = WQ P Q (.code y :: k) := by funext m ρ H; cases m <;> rfl
  rw [this]
theorem W_block {id : Nat} {x : Code} : W P Q (.code (.block id x) :: k) ρ H = W P Q (.code x :: .blk id :: k) ρ H := _root_.id rfl
theorem W_blk {id : Nat} : W P Q (.blk id :: k) ρ H = W P Q k ρ H := _root_.id rfl
theorem W_back {J : Env → MH → Prop} : W P Q (.back J :: k) ρ H = J ρ H := _root_.id rfl
theorem W_exit {id : Nat} : W P Q (.code (.exit id) :: k) ρ H = WX P Q id k ρ H := _root_.id rfl
theorem WX_code {id : Nat} {c : Code} : WX P Q id (.code c :: k) ρ H = WX P Q id k ρ H := _root_.id rfl
theorem WX_run {id : Nat} {l F} : WX P Q id (.run l F :: k) ρ H = WX P Q id k ρ H := _root_.id rfl
theorem WX_back {id : Nat} {J} : WX P Q id (.back J :: k) ρ H = WX P Q id k ρ H := _root_.id rfl
theorem WX_rnd {id n : Nat} {c} : WX P Q id (.rnd n c :: k) ρ H = WX P Q id k ρ H := _root_.id rfl
theorem W_rnd {n : Nat} {c : Code} : W P Q (.rnd (n + 1) c :: k) ρ H = W P Q (.code c :: .rnd n c :: k) ρ H := by
  show mwp P c (thenQ (fun _ ρ H => loopN (mwp P c) (WQ P Q k) n ρ H) (WQ P Q k)) ρ H = mwp P c (WQ P Q (.rnd n c :: k)) ρ H
  have : thenQ (fun _ ρ H => loopN (mwp P c) (WQ P Q k) n ρ H) (WQ P Q k) = WQ P Q (.rnd n c :: k) := by funext m ρ H; cases m <;> rfl
  rw [this]
/-- A loop of at most n rounds. -/
theorem W_loop_n (n : Nat) {c : Code} (h : W P Q (.rnd n c :: k) ρ H) : W P Q (.code (.loop c) :: k) ρ H := ⟨n, h⟩
theorem WX_blk {id j : Nat} : WX P Q id (.blk j :: k) ρ H = if id = j then W P Q k ρ H else WX P Q id k ρ H := _root_.id rfl
theorem W_ret : W P Q (.code .ret :: k) ρ H = Q .ret ρ H := by
  show WQ P Q k .ret ρ H = Q .ret ρ H
  induction k with
  | nil => rfl
  | cons x k ih => cases x <;> exact ih
theorem W_cond {c : Operand} {x y : Code} : W P Q (.code (.cond c x y) :: k) ρ H = ((asB (ev ρ c)).isSome = true ∧ (asB (ev ρ c) = some true → W P Q (.code x :: k) ρ H) ∧ (asB (ev ρ c) = some false → W P Q (.code y :: k) ρ H)) := by
  show (∃ b, asB (ev ρ c) = some b ∧ (b = true → mwp P x (WQ P Q k) ρ H) ∧ (b = false → mwp P y (WQ P Q k) ρ H)) = _
  cases asB (ev ρ c) with
  | none => simp
  | some b => cases b <;> simp [W, WQ]
theorem W_region {id : Nat} {ops : Array Oper} : W P Q (.code (.region id ops false) :: k) ρ H = W P Q (.run (stps ops.toList ops.toList) [] :: k) ρ H := _root_.id rfl
theorem W_draw {id : Nat} {ops : Array Oper} (pl : List (Nat × List Nat)) (R : List Nat) (hv : vokR ops pl R = true) (h : W P Q (.run (vstps ops R pl) [] :: k) ρ H) : W P Q (.code (.region id ops true) :: k) ρ H := ⟨pl, R, hv, h⟩
theorem W_done {F} : W P Q (.run [] F :: k) ρ H = W P Q k ρ H := _root_.id rfl

/-- One operation that may be carried out or not: one that writes or calls, or makes memory. -/
theorem W_guard {i L r d op g b l F} : W P Q (.run (⟨i, L, r, d, op, some (g, b)⟩ :: l) F :: k) ρ H =
    if wantS (some (g, b)) ρ = true then W P Q (.run (⟨i, L, r, d, op, none⟩ :: l) F :: k) ρ H else W P Q (.run l F :: k) (put ρ d (.lit undef)) H := by
  show rM P _ F ρ H _ = _
  simp only [rM]
  split <;> rfl
theorem W_guard_eff {i L r d op g b l F} (hc : cls op = .eff) : W P Q (.run (⟨i, L, r, d, op, some (g, b)⟩ :: l) F :: k) ρ H =
    if wantS (some (g, b)) ρ = true then W P Q (.run (⟨i, L, r, d, op, none⟩ :: l) F :: k) ρ H else W P Q (.run l F :: k) (put ρ d (.lit undef)) H := W_guard
theorem W_guard_alloc {i L r d op g b l F} (hc : cls op = .alloc) : W P Q (.run (⟨i, L, r, d, op, some (g, b)⟩ :: l) F :: k) ρ H =
    if wantS (some (g, b)) ρ = true then W P Q (.run (⟨i, L, r, d, op, none⟩ :: l) F :: k) ρ H else W P Q (.run l F :: k) (put ρ d (.lit undef)) H := W_guard
theorem W_guard_c {i L r d op g b l F} : W P Q (.run (⟨i, L, r, d, op, some (g, b)⟩ :: l) F :: k) ρ H =
    ((wantS (some (g, b)) ρ = true → W P Q (.run (⟨i, L, r, d, op, none⟩ :: l) F :: k) ρ H) ∧ (¬ wantS (some (g, b)) ρ = true → W P Q (.run l F :: k) (put ρ d (.lit undef)) H)) := by
  rw [W_guard]
  split <;> simp_all
theorem W_cond_c {c : Operand} {x y : Code} : W P Q (.code (.cond c x y) :: k) ρ H = ((asB (ev ρ c)).isSome = true ∧ (asB (ev ρ c) = some true → W P Q (.code x :: k) ρ H) ∧ (¬ asB (ev ρ c) = some true → W P Q (.code y :: k) ρ H)) := by
  rw [W_cond]
  cases asB (ev ρ c) with
  | none => simp
  | some b => cases b <;> simp
theorem want_iff {e : Tmp} {b : Bool} {ρ : Env} : wantS (some (some e, b)) ρ = true ↔ asB (ρ e) = some b := by
  simp [wantS]
theorem W_guard_t {i L r d op e b l F} (h : asB (ρ e) = some b) : W P Q (.run (⟨i, L, r, d, op, some (some e, b)⟩ :: l) F :: k) ρ H = W P Q (.run (⟨i, L, r, d, op, none⟩ :: l) F :: k) ρ H := by
  rw [W_guard, if_pos (want_iff.2 h)]
theorem W_guard_f {i L r d op e b l F} (h : asB (ρ e) = some (!b)) : W P Q (.run (⟨i, L, r, d, op, some (some e, b)⟩ :: l) F :: k) ρ H = W P Q (.run l F :: k) (put ρ d (.lit undef)) H := by
  rw [W_guard, if_neg (by rw [want_iff, h]; cases b <;> simp)]
theorem W_guard_n {i L r d op e b l F} (h : asB (ρ e) = none) : W P Q (.run (⟨i, L, r, d, op, some (some e, b)⟩ :: l) F :: k) ρ H = W P Q (.run l F :: k) (put ρ d (.lit undef)) H := by
  rw [W_guard, if_neg (by rw [want_iff, h]; simp)]
theorem W_cond_t {c : Operand} {x y : Code} (h : asB (ev ρ c) = some true) : W P Q (.code (.cond c x y) :: k) ρ H = W P Q (.code x :: k) ρ H := by
  rw [W_cond, h]; simp
theorem W_cond_f {c : Operand} {x y : Code} (h : asB (ev ρ c) = some false) : W P Q (.code (.cond c x y) :: k) ρ H = W P Q (.code y :: k) ρ H := by
  rw [W_cond, h]; simp
/-- The walk is parted by hand. -/
theorem split_guard {i L r d op e b l F} {p : Prop} (hp : (asB (ρ e) = some b) = p) (h1 : p → W P Q (.run (⟨i, L, r, d, op, none⟩ :: l) F :: k) ρ H) (h2 : ¬ p → W P Q (.run l F :: k) (put ρ d (.lit undef)) H) :
    W P Q (.run (⟨i, L, r, d, op, some (some e, b)⟩ :: l) F :: k) ρ H := by
  rw [W_guard]
  split
  · rename_i hw; rw [want_iff, hp] at hw; exact h1 hw
  · rename_i hw; rw [want_iff, hp] at hw; exact h2 hw
theorem split_cond {c : Operand} {x y : Code} {b : Bool} {p : Prop} (hb : asB (ev ρ c) = some b) (hp : (b = true) = p) (h1 : p → W P Q (.code x :: k) ρ H) (h2 : ¬ p → W P Q (.code y :: k) ρ H) : W P Q (.code (.cond c x y) :: k) ρ H := by
  rw [W_cond, hb]
  refine ⟨rfl, fun h => h1 (hp ▸ Option.some.inj h), fun h => h2 fun hp' => ?_⟩
  have := hp ▸ hp'
  rw [this] at h
  cases h
/-- The others: the walk isn't parted. -/
theorem W_guard_pure {i L r d op g b l F} (hc : cls op = .pure) : W P Q (.run (⟨i, L, r, d, op, some (g, b)⟩ :: l) F :: k) ρ H =
    ((if wantS (some (g, b)) ρ = true then pureV P op ρ else some (.lit undef)).isSome = true ∧
      W P Q (.run l F :: k) (put ρ d ((if wantS (some (g, b)) ρ = true then pureV P op ρ else some (.lit undef)).getD default)) H) := by
  show rM P _ F ρ H _ = _
  simp only [rM, hc]
  split
  · rfl
  · simp [W, WQ]
theorem W_guard_load {i L d t x g b l F} : W P Q (.run (⟨i, L, false, d, .load t x, some (g, b)⟩ :: l) F :: k) ρ H =
    ((if wantS (some (g, b)) ρ = true then loadV P t (ev ρ x) H else some (.lit undef)).isSome = true ∧
      W P Q (.run l F :: k) (put ρ d ((if wantS (some (g, b)) ρ = true then loadV P t (ev ρ x) H else some (.lit undef)).getD default)) H) := by
  show rM P _ F ρ H _ = _
  simp only [rM, cls, hold]
  split
  · rfl
  · simp [W, WQ]
theorem W_guard_loadr {i L d t x g b l F} : W P Q (.run (⟨i, L, true, d, .load t x, some (g, b)⟩ :: l) F :: k) ρ H =
    if wantS (some (g, b)) ρ = true then W P Q (.run (⟨i, L, true, d, .load t x, none⟩ :: l) F :: k) ρ H else W P Q (.run l F :: k) (put ρ d (.lit undef)) H := W_guard

theorem W_pure {i L r d op l F} (hc : cls op = .pure) : W P Q (.run (⟨i, L, r, d, op, none⟩ :: l) F :: k) ρ H =
    ((pureV P op ρ).isSome = true ∧ W P Q (.run l F :: k) (put ρ d ((pureV P op ρ).getD default)) H) := by
  show rM P _ F ρ H _ = _
  simp only [rM, wantS, if_true, hc]
  rfl

theorem W_load {i L r d t x l F} : W P Q (.run (⟨i, L, r, d, .load t x, none⟩ :: l) F :: k) ρ H =
    ((loadV P t (ev ρ x) H).isSome = true ∧ W P Q (.run l (hold r (i, .load t (ev ρ x) ((loadV P t (ev ρ x) H).getD default)) F) :: k) (put ρ d ((loadV P t (ev ρ x) H).getD default)) H) := _root_.id rfl

theorem W_alloc' {i L r d op l F} (hc : cls op = .alloc) : W P Q (.run (⟨i, L, r, d, op, none⟩ :: l) F :: k) ρ H =
    ((allocV P op ρ).isSome = true ∧ W P Q (.run l (hold r (i, .obj H.length ((allocV P op ρ).getD default).1) F) :: k) (put ρ d (((allocV P op ρ).getD default).2 H.length)) (H ++ [some ⟨((allocV P op ρ).getD default).1, true⟩])) := by
  show rM P _ F ρ H _ = _
  simp only [rM, wantS, if_true, hc]
  rfl

theorem W_store {i L r d t x y l F} : W P Q (.run (⟨i, L, r, d, .store t x y, none⟩ :: l) F :: k) ρ H =
    ((storeV P t (ev ρ x) (ev ρ y) H).isSome = true ∧ held P L ((storeV P t (ev ρ x) (ev ρ y) H).getD []) F ∧ W P Q (.run l F :: k) (put ρ d (.lit undef)) ((storeV P t (ev ρ x) (ev ρ y) H).getD [])) := by
  show rM P _ F ρ H _ = _
  simp only [rM, wantS, if_true, cls, effM]
  cases storeV P t (ev ρ x) (ev ρ y) H with
  | none => simp
  | some H' => simp [W, WQ]

theorem W_call {i L r d f args ats l F} : W P Q (.run (⟨i, L, r, d, .call { callee := .value f, args := args, argTypes := ats }, none⟩ :: l) F :: k) ρ H =
    CallK P Q (ev ρ f) (evs ρ args) d L l F k ρ H := by
  show rM P _ F ρ H _ = _
  simp only [rM, wantS, if_true, cls, effM]
  rfl

/-- An append: what comes of it hangs on how much room there is. -/
def AppK (P : Program) (Q : MQ) (a : Option (Option (List MV × Nat × Nat) × MH)) (n0 : Nat) (d : Option Tmp) (L : List Nat) (l : List Stp) (F : List (Nat × HF)) (k : List It) (ρ : Env) : Prop :=
  match a with
  | some (none, H') => held P L H' F ∧ W P Q (.run l F :: k) (put ρ d (.lit (.slice none 0 0))) H'
  | some (some (cs, n, esz), H') => ∀ c, n ≤ c → held P L H' F ∧ W P Q (.run l F :: k) (put ρ d (.slice n0 0 n c esz)) H'
  | none => False

theorem W_append {i L r d s x ats l F} : W P Q (.run (⟨i, L, r, d, .call { callee := .builtin .append, args := #[s, x], argTypes := ats }, none⟩ :: l) F :: k) ρ H =
    AppK P Q (appV P ats (ev ρ s) (ev ρ x) H) H.length d L l F k ρ := by
  show rM P _ F ρ H _ = _
  simp only [rM, wantS, if_true, cls, effM]
  rfl

/-- A call, by what is known of the function. -/
theorem CallK_of {g : FuncId} {a b args : List MV} {d L l F} {K : MV → MH → Prop} (hs : Spec P g (a ++ args ++ b) H K) (hn : ∀ v H', K v H' → held P L H' F ∧ W P Q (.run l F :: k) (put ρ d v) H') :
    CallK P Q (.fn (.func g) a b) args d L l F k ρ H := hs.mono hn

/-- A call of a function that answers r and leaves the memory as it was. -/
theorem CallK_eq {g : FuncId} {args : List MV} {d L l F} {r : MV} (hs : Spec P g args H fun v H' => v = r ∧ H' = H) (hh : held P L H F) (h : W P Q (.run l F :: k) (put ρ d r) H) :
    CallK P Q (.fn (.func g) [] []) args d L l F k ρ H := by
  refine CallK_of (a := []) (b := []) (by simpa using hs) ?_
  rintro v H' ⟨rfl, rfl⟩
  exact ⟨hh, h⟩

theorem held_nil {P : Program} {L H} : held P L H [] = True := _root_.id rfl

theorem mwp_mono : ∀ (c : Code) (Q Q' : MQ) (ρ : Env) (H : MH), (∀ e ρ H, Q e ρ H → Q' e ρ H) → mwp P c Q ρ H → mwp P c Q' ρ H := by
  have rmono : ∀ (l : List Stp) (F : List (Nat × HF)) (ρ : Env) (H : MH) (K K' : Env → MH → Prop), (∀ ρ H, K ρ H → K' ρ H) → rM P l F ρ H K → rM P l F ρ H K' := by
    intro l
    induction l with
    | nil => intro F ρ H K K' hk h; exact hk _ _ h
    | cons s l ih =>
      intro F ρ H K K' hk h
      simp only [rM] at h ⊢
      split at h
      · rename_i hw
        rw [if_pos hw]
        split at h
        · exact ⟨h.1, ih _ _ _ _ _ hk h.2⟩
        · exact ⟨h.1, ih _ _ _ _ _ hk h.2⟩
        · exact ⟨h.1, ih _ _ _ _ _ hk h.2⟩
        · exact effM_mono (fun v H' hh => ⟨hh.1, ih _ _ _ _ _ hk hh.2⟩) h
      · rename_i hw
        rw [if_neg hw]
        exact ih _ _ _ _ _ hk h
  intro c
  induction c with
  | skip => intro Q Q' ρ H hq h; exact hq _ _ _ h
  | region id ops draw =>
    intro Q Q' ρ H hq h
    cases draw
    · exact rmono _ _ _ _ _ _ (fun ρ H => hq _ ρ H) h
    · obtain ⟨pl, R0, h1, h2⟩ := by simpa only [mwp] using h
      exact ⟨pl, R0, h1, rmono _ _ _ _ _ _ (fun ρ H => hq _ ρ H) h2⟩
  | seq x y ihx ihy =>
    intro Q Q' ρ H hq h
    refine ihx _ _ ρ H ?_ h
    intro e ρ H he
    cases e with
    | normal => exact ihy _ _ ρ H hq he
    | exit id => exact hq _ _ _ he
    | ret => exact hq _ _ _ he
  | cond c x y ihx ihy =>
    intro Q Q' ρ H hq h
    obtain ⟨b, hb, h1, h2⟩ := by simpa only [mwp] using h
    exact ⟨b, hb, fun hx => ihx _ _ ρ H hq (h1 hx), fun hx => ihy _ _ ρ H hq (h2 hx)⟩
  | block id x ih =>
    intro Q Q' ρ H hq h
    refine ih _ _ ρ H ?_ h
    intro e ρ H he
    cases e with
    | normal => exact hq _ _ _ he
    | exit i =>
      simp only [blockQ] at he ⊢
      split at he
      · rename_i hi; rw [if_pos hi]; exact hq _ _ _ he
      · rename_i hi; rw [if_neg hi]; exact hq _ _ _ he
    | ret => exact hq _ _ _ he
  | loop x ih =>
    intro Q Q' ρ H hq h
    obtain ⟨n, hn⟩ := by simpa only [mwp] using h
    refine ⟨n, ?_⟩
    clear h
    induction n generalizing ρ H with
    | zero => exact hn
    | succ n ihn =>
      refine ih _ _ ρ H ?_ hn
      intro e ρ H he
      cases e with
      | normal => exact ihn ρ H he
      | exit id => exact hq _ _ _ he
      | ret => exact hq _ _ _ he
  | exit id => intro Q Q' ρ H hq h; exact hq _ _ _ h
  | ret => intro Q Q' ρ H hq h; exact hq _ _ _ h
  | _ => intro Q Q' ρ H hq h; exact h.elim

/-- The ways through a statement are brought together behind it. -/
theorem W_cut {c : Code} (S : Env → MH → Prop) (h1 : W P Q (.code c :: .back S :: k) ρ H) (h2 : ∀ ρ H, S ρ H → W P Q k ρ H) : W P Q (.code c :: k) ρ H := by
  refine mwp_mono c _ _ ρ H ?_ h1
  intro e ρ H he
  cases e with
  | normal => exact h2 ρ H he
  | exit id => exact he
  | ret => exact he

/-- A loop: what holds at each round's head, and what goes down. -/
theorem W_loop (I : Env → MH → Prop) (m : Env → MH → Nat) {c : Code} (h0 : I ρ H)
    (round : ∀ ρ H, I ρ H → W P Q (.code c :: .back (fun ρ' H' => I ρ' H' ∧ m ρ' H' < m ρ H) :: k) ρ H) : W P Q (.code (.loop c) :: k) ρ H := by
  show ∃ n, loopN (mwp P c) (WQ P Q k) n ρ H
  have mono := @mwp_mono P
  have key : ∀ (j : Nat) (ρ : Env) (H : MH), m ρ H < j → I ρ H → loopN (mwp P c) (WQ P Q k) j ρ H := by
    intro j
    induction j with
    | zero => intro ρ H hj; omega
    | succ j ih =>
      intro ρ H hj hI
      refine mono c _ _ ρ H ?_ (round ρ H hI)
      intro e ρ' H' he
      cases e with
      | normal => exact ih ρ' H' (by have := he.2; omega) he.1
      | exit id => exact he
      | ret => exact he
  exact ⟨m ρ H + 1, key _ ρ H (by omega) h0⟩

end

/-- A function, by the walk of its body. -/
theorem enter {P : Program} {f : FuncId} {fn : Func} {c : Code} {args : List MV} {H : MH} {K : MV → MH → Prop} (hf : P.funcs[f]? = some fn) (rs : List ResultVar)
    (h : W P (retQ P rs K) [.code c] (args0 args) H) (hm : P.follows .mixedOrders = true := by assumption) (hb : fn.body = some c := by exact rfl) (hr : fn.results.toList = rs := by exact rfl) (hname : fn.name ≠ "runtime.NumGoroutine" := by decide)
    (hn : args.length ≤ fn.ntmps := by exact (Nat.le_of_ble_eq_true rfl)) (hok : codeOk fn.ntmps c = true := by kernel_rfl) : Spec P f args H K := by
  subst hr
  exact spec_of_body hm hf hb hname hn hok h

end Go.Proofs.Ytojppdcbnpinbaa.M
