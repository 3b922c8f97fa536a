/- The small machine, nineteenth part: a run that the kernel can reckon: for arguments that are known. -/
import Derived.Test.YtcikcinkjbbnhaaDoorM18
set_option linter.unusedSimpArgs false
set_option linter.unusedVariables false
namespace Go.Proofs.YtcikcinkjbbnhaaDoor.M
open Go

/-! ### Reckonings that may ask how much more room an append gets -/

abbrev Rn (α : Type) := (Nat → Nat) → Nat → Option (α × Nat)
def agree (k : Nat) (σ τ : Nat → Nat) : Prop := ∀ i, i < k → σ i = τ i
def Tot {α : Type} (e : Rn α) (k : Nat) (τ : Nat → Nat) : Prop := ∀ σ, agree k σ τ → (e σ k).isSome = true
structure Out {α : Type} (e : Rn α) (k : Nat) (τ : Nat → Nat) (a : α) (k' : Nat) (σ' : Nat → Nat) : Prop where
  ag : agree k σ' τ
  le : k ≤ k'
  eq : ∀ σ, agree k' σ σ' → e σ k = some (a, k')
def retE {α : Type} (a : α) : Rn α := fun _ k => some (a, k)
def failE {α : Type} : Rn α := fun _ _ => none
def bindE {α β : Type} (e : Rn α) (f : α → Rn β) : Rn β := fun σ k => match e σ k with
  | some (a, k') => f a σ k'
  | none => none
def capE (n : Nat) : Rn Nat := fun σ k => some (σ k + n, k + 1)

section
variable {α β : Type} {e : Rn α} {f : α → Rn β} {k k1 k2 : Nat} {τ σ1 σ2 : Nat → Nat} {a : α} {b : β}
theorem agree.refl : agree k τ τ := fun _ _ => rfl
theorem agree.trans {a b c : Nat → Nat} (h : agree k a b) (h' : agree k b c) : agree k a c := fun i hi => (h i hi).trans (h' i hi)
theorem agree.le {a b : Nat → Nat} (h : agree k1 a b) (hk : k ≤ k1) : agree k a b := fun i hi => h i (by omega)
theorem Tot.left (h : Tot (bindE e f) k τ) : Tot e k τ := fun σ hs => by
  have := h σ hs
  unfold bindE at this
  cases he : e σ k with
  | none => rw [he] at this; cases this
  | some x => rfl
theorem Tot.right (h : Tot (bindE e f) k τ) (ho : Out e k τ a k1 σ1) : Tot (f a) k1 σ1 := fun σ hs => by
  have := h σ ((hs.le ho.le).trans ho.ag)
  unfold bindE at this
  rw [ho.eq σ hs] at this
  exact this
theorem Out.bind (ho : Out e k τ a k1 σ1) (h : Out (f a) k1 σ1 b k2 σ2) : Out (bindE e f) k τ b k2 σ2 :=
  ⟨(h.ag.le ho.le).trans ho.ag, Nat.le_trans ho.le h.le, fun σ hs => by
    unfold bindE
    rw [ho.eq σ ((hs.le h.le).trans h.ag)]
    exact h.eq σ hs⟩
theorem Out.ret : Out (retE a) k τ a k τ := ⟨agree.refl, Nat.le_refl _, fun _ _ => rfl⟩
theorem not_fail (h : Tot (failE : Rn α) k τ) : False := by have := h τ agree.refl; cases this
theorem Out.cap {n c : Nat} (h : n ≤ c) : Out (capE n) k τ c (k + 1) (fun i => if i = k then c - n else τ i) :=
  ⟨fun i hi => by show (if i = k then c - n else τ i) = τ i; rw [if_neg (by omega)], by omega, fun σ hs => by
    have := hs k (by omega)
    simp only [if_true] at this
    simp only [capE, this]
    congr 2
    omega⟩
end

/-! ### Temporaries as a tree -/

inductive Tr where
  | leaf
  | node (l : Tr) (v : MV) (r : Tr)
def Tr.get : Tr → Nat → MV
  | .leaf, _ => .lit undef
  | .node l v r, t => bif Nat.beq t 0 then v else bif Nat.beq (t % 2) 1 then l.get ((t - 1) / 2) else r.get ((t - 1) / 2)
def Tr.setN (v : MV) : Nat → Tr → Nat → Tr
  | 0, x, _ => x
  | n + 1, .leaf, t => bif Nat.beq t 0 then .node .leaf v .leaf else bif Nat.beq (t % 2) 1 then .node (Tr.setN v n .leaf ((t - 1) / 2)) (.lit undef) .leaf else .node .leaf (.lit undef) (Tr.setN v n .leaf ((t - 1) / 2))
  | n + 1, .node l u r, t => bif Nat.beq t 0 then .node l v r else bif Nat.beq (t % 2) 1 then .node (Tr.setN v n l ((t - 1) / 2)) u r else .node l u (Tr.setN v n r ((t - 1) / 2))
def Tr.set (x : Tr) (t : Nat) (v : MV) : Tr := Tr.setN v (t + 1) x t

theorem beq_dec' (a b : Nat) : Nat.beq a b = decide (a = b) := by
  by_cases h : a = b
  · subst h; simp [Nat.beq_refl]
  · simp only [h, decide_false]
    cases hb : Nat.beq a b with
    | false => rfl
    | true => exact absurd (Nat.eq_of_beq_eq_true hb) h
theorem Tr.get_leaf (t : Nat) : Tr.leaf.get t = .lit undef := rfl
theorem Tr.get_setN (v : MV) : ∀ (n : Nat) (x : Tr) (d t : Nat), d < n → (Tr.setN v n x d).get t = if t = d then v else x.get t
  | 0, _, _, _, h => by omega
  | n + 1, x, d, t, h => by
    have key : ∀ (l r : Tr) (u : MV), (bif Nat.beq d 0 then Tr.node l v r else bif Nat.beq (d % 2) 1 then .node (Tr.setN v n l ((d - 1) / 2)) u r else .node l u (Tr.setN v n r ((d - 1) / 2))).get t = if t = d then v else (Tr.node l u r).get t := by
      intro l r u
      simp only [beq_dec', Bool.cond_eq_ite, decide_eq_true_eq]
      by_cases h0 : d = 0
      · subst h0
        rw [if_pos rfl]
        by_cases ht : t = 0
        · subst ht; simp [Tr.get, beq_dec']
        · simp [Tr.get, beq_dec', ht]
      · rw [if_neg h0]
        have hd : (d - 1) / 2 < n := by omega
        by_cases h1 : d % 2 = 1
        · rw [if_pos h1]
          simp only [Tr.get, beq_dec', Bool.cond_eq_ite, decide_eq_true_eq]
          by_cases ht : t = 0
          · rw [if_pos ht, if_pos ht, if_neg (by omega)]
          · rw [if_neg ht, if_neg ht]
            by_cases h2 : t % 2 = 1
            · rw [if_pos h2, if_pos h2, Tr.get_setN v n l _ _ hd]
              by_cases he : t = d
              · subst he; simp
              · rw [if_neg he, if_neg (by omega)]
            · rw [if_neg h2, if_neg h2, if_neg (by omega)]
        · rw [if_neg h1]
          simp only [Tr.get, beq_dec', Bool.cond_eq_ite, decide_eq_true_eq]
          by_cases ht : t = 0
          · rw [if_pos ht, if_pos ht, if_neg (by omega)]
          · rw [if_neg ht, if_neg ht]
            by_cases h2 : t % 2 = 1
            · rw [if_pos h2, if_pos h2, if_neg (by omega)]
            · rw [if_neg h2, if_neg h2, Tr.get_setN v n r _ _ hd]
              by_cases he : t = d
              · subst he; simp
              · rw [if_neg he, if_neg (by omega)]
    cases x with
    | leaf =>
      have hl : (Tr.node .leaf (.lit undef) .leaf).get t = Tr.leaf.get t := by
        simp only [Tr.get, Bool.cond_eq_ite]
        split
        · rfl
        · split <;> rfl
      rw [← hl]
      exact key .leaf .leaf (.lit undef)
    | node l u r => exact key l r u
theorem Tr.get_set (x : Tr) (d t : Nat) (v : MV) : (x.set d v).get t = if t = d then v else x.get t := Tr.get_setN v (d + 1) x d t (by omega)

def putT (x : Tr) (d : Option Tmp) (v : MV) : Tr := match d with
  | some d => x.set d v
  | none => x
theorem putT_get (x : Tr) (d : Option Tmp) (v : MV) : (putT x d v).get = put x.get d v := by
  cases d with
  | none => rfl
  | some d => funext t; simp only [putT, put, Tr.get_set]
def argsT : List MV → Nat → Tr → Tr
  | [], _, x => x
  | v :: vs, i, x => argsT vs (i + 1) (x.set i v)
theorem argsT_get : ∀ (vs : List MV) (i : Nat) (x : Tr) (t : Nat), (argsT vs i x).get t = if i ≤ t ∧ t < i + vs.length then vs.getD (t - i) (.lit undef) else x.get t
  | [], i, x, t => by simp only [argsT, List.length_nil]; rw [if_neg (by omega)]
  | v :: vs, i, x, t => by
    simp only [argsT, argsT_get vs (i + 1), Tr.get_set, List.length_cons]
    by_cases h : t = i
    · subst h; rw [if_neg (by omega), if_pos rfl, if_pos (by omega)]; simp
    · by_cases h2 : i + 1 ≤ t ∧ t < i + 1 + vs.length
      · rw [if_pos h2, if_pos (by omega)]
        have : t - i = (t - (i + 1)) + 1 := by omega
        rw [this, List.getD_cons_succ]
      · rw [if_neg h2, if_neg h, if_neg (by omega)]
theorem argsT_args0 (vs : List MV) : (argsT vs 0 .leaf).get = args0 vs := by
  funext t
  rw [argsT_get, args0]
  by_cases h : t < vs.length
  · rw [if_pos (by omega)]; rfl
  · rw [if_neg (by omega)]
    rw [List.getD_eq_getElem?_getD, List.getElem?_eq_none (by omega)]; rfl

/-! ### Values held against each other -/

mutual
def eqB : MV → MV → Bool
  | .lit (.int k a), .lit (.int k' b) => decide (k = k') && decide (a = b)
  | .lit (.bool a), .lit (.bool b) => a == b
  | .lit (.pointer none), .lit (.pointer none) => true
  | .lit (.slice none 0 0), .lit (.slice none 0 0) => true
  | .ptr p o, .ptr q r => Nat.beq p q && Nat.beq o r
  | .slice p o n c z, .slice p' o' n' c' z' => Nat.beq p p' && Nat.beq o o' && Nat.beq n n' && Nat.beq c c' && Nat.beq z z'
  | .agg a, .agg b => eqBs a b
  | .tup a, .tup b => eqBs a b
  | _, _ => false
def eqBs : List MV → List MV → Bool
  | [], [] => true
  | a :: as, b :: bs => eqB a b && eqBs as bs
  | _, _ => false
end
mutual
theorem eqB_eq : ∀ a b : MV, eqB a b = true → a = b := by
  intro a b h
  unfold eqB at h
  split at h <;> (try simp only [Bool.and_eq_true, decide_eq_true_eq, beq_dec', beq_iff_eq, Bool.false_eq_true] at h) <;> first
    | rfl
    | contradiction
    | (rename_i a b; rw [eqBs_eq a b h]; done)
    | simp_all
theorem eqBs_eq : ∀ a b : List MV, eqBs a b = true → a = b := by
  intro a b h
  unfold eqBs at h
  split at h <;> (try simp only [Bool.and_eq_true, Bool.false_eq_true] at h) <;> first
    | rfl
    | contradiction
    | (rename_i a as b bs; rw [eqB_eq a b h.1, eqBs_eq as bs h.2])
end

def semB (P : Program) : HF → MH → Bool
  | .load t x v, H => match loadV P t x H with
    | some u => eqB u v
    | none => false
  | .obj p cs, H => match hget H p with
    | some ⟨ds, true⟩ => eqBs ds cs
    | _ => false
theorem semB_sem {P : Program} {x : HF} {H : MH} (h : semB P x H = true) : x.sem P H := by
  cases x with
  | load t x v =>
    simp only [semB] at h
    split at h
    · rename_i u hu; rw [eqB_eq u v h] at hu; exact hu
    · cases h
  | obj p cs =>
    simp only [semB] at h
    split at h
    · rename_i ds hd; rw [eqBs_eq ds cs h] at hd; exact hd
    · cases h
def heldB (P : Program) (L : List Nat) (H : MH) : List (Nat × HF) → Bool
  | [] => true
  | x :: F => (!(L.any (Nat.beq x.1 ·)) || semB P x.2 H) && heldB P L H F
theorem heldB_held {P : Program} {L : List Nat} {H : MH} : ∀ {F : List (Nat × HF)}, heldB P L H F = true → held P L H F
  | [], _ => trivial
  | x :: F, h => by
    simp only [heldB, Bool.and_eq_true, Bool.or_eq_true, Bool.not_eq_true', List.any_eq_false] at h
    refine ⟨fun hx => ?_, heldB_held h.2⟩
    rcases h.1 with h1 | h1
    · have := h1 _ hx
      simp [Nat.beq_refl] at this
    · exact semB_sem h1

/-! ### The run -/

/-! What the kernel is to reckon at once. -/
def fN {α : Type} (n : Nat) (k : Nat → α) : α := Nat.rec (k 0) (fun m _ => k (m + 1)) n
theorem fN_eq {α : Type} (n : Nat) (k : Nat → α) : fN n k = k n := by cases n <;> rfl
def fI {α : Type} (n : Int) (k : Int → α) : α := match n with
  | .ofNat m => fN m fun m => k (.ofNat m)
  | .negSucc m => fN m fun m => k (.negSucc m)
theorem fI_eq {α : Type} (n : Int) (k : Int → α) : fI n k = k n := by cases n <;> simp [fI, fN_eq]
def fL {α β : Type} (f : β → (β → α) → α) : List β → (List β → α) → α
  | [], k => k []
  | x :: l, k => f x fun x => fL f l fun l => k (x :: l)
theorem fL_eq {α β : Type} {f : β → (β → α) → α} (h : ∀ x k, f x k = k x) : ∀ l k, fL f l k = k l
  | [], k => rfl
  | x :: l, k => by rw [fL, h, fL_eq h l]
def fVn {α : Type} : Nat → MV → (MV → α) → α
  | 0, v, k => k v
  | n + 1, v, k => match v with
    | .lit (.int t m) => fI m fun m => k (.lit (.int t m))
    | .lit (.bool true) => k (.lit (.bool true))
    | .lit (.bool false) => k (.lit (.bool false))
    | .tup vs => fL (fVn n) vs fun vs => k (.tup vs)
    | .agg vs => fL (fVn n) vs fun vs => k (.agg vs)
    | .ptr p o => fN p fun p => fN o fun o => k (.ptr p o)
    | .slice p o m c z => fN p fun p => fN o fun o => fN m fun m => fN c fun c => fN z fun z => k (.slice p o m c z)
    | v => k v
theorem fVn_eq {α : Type} : ∀ (n : Nat) (v : MV) (k : MV → α), fVn n v k = k v
  | 0, v, k => rfl
  | n + 1, v, k => by
    unfold fVn
    split <;> simp [fI_eq, fN_eq, fL_eq (fVn_eq n)]
def fVk {α : Type} (v : MV) (k : MV → α) : α := fVn 3 v k
theorem fVk_eq {α : Type} (v : MV) (k : MV → α) : fVk v k = k v := fVn_eq 3 v k
def fD {α : Type} : List Int → (List Int → α) → α := fL fI
theorem fD_eq {α : Type} (l : List Int) (k : List Int → α) : fD l k = k l := fL_eq fI_eq l k
def fH {α : Type} (H : MH) (k : MH → α) : α := fL (fun x k => k x) H k
theorem fH_eq {α : Type} (H : MH) (k : MH → α) : fH H k = k H := fL_eq (fun _ _ => rfl) H k

/-! What is held, and whether it is known to hold in the memory as it is. -/
abbrev HFs := List (Nat × HF × Bool)
def unF (F : HFs) : List (Nat × HF) := F.map fun x => (x.1, x.2.1)
def holdE (r : Bool) (x : Nat × HF × Bool) (F : HFs) : HFs := match r with
  | true => x :: F
  | false => F
theorem unF_hold {r : Bool} {i : Nat} {h : HF} {b : Bool} {F : HFs} : unF (holdE r (i, h, b) F) = hold r (i, h) (unF F) := by cases r <;> rfl
def heldU (P : Program) (L : List Nat) (H : MH) : HFs → Bool
  | [] => true
  | x :: F => (!(L.any (Nat.beq x.1 ·)) || (x.2.2 || semB P x.2.1 H)) && heldU P L H F
def markE (L : List Nat) (F : HFs) : HFs := F.map fun x => (x.1, x.2.1, x.2.2 && L.any (Nat.beq x.1 ·))
theorem unF_mark {L : List Nat} {F : HFs} : unF (markE L F) = unF F := by simp [unF, markE, Function.comp_def]
def Valid (P : Program) (H : MH) (F : HFs) : Prop := ∀ x ∈ F, x.2.2 = true → x.2.1.sem P H
theorem Valid.nil {P : Program} {H : MH} : Valid P H [] := fun x hx => by cases hx
theorem Valid.hold {P : Program} {H : MH} {F : HFs} (h : Valid P H F) {r : Bool} {i : Nat} {hf : HF} (hs : hf.sem P H) : Valid P H (holdE r (i, hf, true) F) := by
  cases r with
  | false => exact h
  | true =>
    intro x hx hb
    rcases List.mem_cons.1 hx with rfl | hx
    · exact hs
    · exact h x hx hb
theorem heldU_held {P : Program} {L : List Nat} {H : MH} : ∀ {F : HFs}, Valid P H F → heldU P L H F = true → held P L H (unF F)
  | [], _, _ => trivial
  | x :: F, hv, h => by
    simp only [heldU, Bool.and_eq_true, Bool.or_eq_true, Bool.not_eq_true', List.any_eq_false] at h
    refine ⟨fun hx => ?_, heldU_held (fun y hy => hv y (List.mem_cons_of_mem _ hy)) h.2⟩
    rcases h.1 with h1 | h1 | h1
    · have := h1 _ hx
      simp [Nat.beq_refl] at this
    · exact hv x (List.mem_cons_self ..) h1
    · exact semB_sem h1
theorem Valid.mark {P : Program} {L : List Nat} {H : MH} {F : HFs} (h : held P L H (unF F)) : Valid P H (markE L F) := by
  intro x hx hb
  simp only [markE, List.mem_map] at hx
  obtain ⟨y, hy, rfl⟩ := hx
  simp only [Bool.and_eq_true, List.any_eq_true] at hb
  obtain ⟨_, z, hz, hyz⟩ := hb
  have : y.1 = z := Nat.eq_of_beq_eq_true hyz
  exact held_iff h (y.1, y.2.1) (List.mem_map.2 ⟨y, hy, rfl⟩) (by rw [this]; exact hz)
theorem loadV_grow {P : Program} {t : TypeId} {x : MV} {H : MH} {v : MV} (h : loadV P t x H = some v) (o : Option MO) : loadV P t x (H ++ [o]) = some v := by
  have := loadO_grow (P := P) (op := .load t (.tmp 0)) (ρ := fun _ => x) (H := H) (v := v) h o
  exact this
theorem Valid.grow {P : Program} {H : MH} {F : HFs} (h : Valid P H F) (o : Option MO) : Valid P (H ++ [o]) F := by
  intro x hx hb
  have := h x hx hb
  obtain ⟨i, hf, b⟩ := x
  cases hf with
  | load t x v => exact loadV_grow this o
  | obj p cs =>
    have hq : hget H p = some ⟨cs, true⟩ := this
    show hget (H ++ [o]) p = _
    rw [hget_append (hget_lt hq)]; exact hq

abbrev CallE := FuncId → List MV → MH → Rn (MV × Option MH)

section
variable (P : Program) (call : CallE)

def effE (o : Op) (ρ : Env) (H : MH) : Rn (MV × Option MH) :=
  match o with
  | .store t x y => match storeV P t (ev ρ x) (ev ρ y) H with
    | some H' => retE (.lit undef, some H')
    | none => failE
  | .call { callee := .value f, args, .. } => match ev ρ f with
    | .fn (.func g) a b => call g (a ++ evs ρ args ++ b) H
    | _ => failE
  | .call { callee := .builtin .append, args := ⟨[s, x]⟩, argTypes } => match appV P argTypes (ev ρ s) (ev ρ x) H with
    | some (none, H') => retE (.lit (.slice none 0 0), some H')
    | some (some (cs, n, esz), H') => bindE (capE n) fun c => retE (.slice H.length 0 n c esz, some H')
    | none => failE
  | .call { callee := .builtin .copy, args := ⟨[s, x]⟩, argTypes } => match copyV P argTypes (ev ρ s) (ev ρ x) H with
    | some (n, H') => retE (.lit (.int .i64 n), some H')
    | none => failE
  | .call { callee := .builtin .clear, args := ⟨[x]⟩, argTypes } => match clearV P argTypes (ev ρ x) H with
    | some H' => retE (.tup [], some H')
    | none => failE
  | _ => failE

def rE : List Stp → HFs → Tr → MH → Rn (Tr × MH)
  | [], F, ρ, H => retE (ρ, H)
  | s :: rest, F, ρ, H =>
    bif wantS s.g ρ.get then
      match cls s.op with
      | .pure => match pureV P s.op ρ.get with
        | some v => fVk v fun v => rE rest F (putT ρ s.d v) H
        | none => failE
      | .load => match loadO P s.op ρ.get H with
        | some v => fVk v fun v => rE rest (holdE s.r (s.i, .load (addr s.op ρ.get).1 (addr s.op ρ.get).2 v, true) F) (putT ρ s.d v) H
        | none => failE
      | .alloc => match allocV P s.op ρ.get with
        | some (cs, f) => rE rest (holdE s.r (s.i, .obj H.length cs, true) F) (putT ρ s.d (f H.length)) (H ++ [some ⟨cs, true⟩])
        | none => failE
      | .eff => bindE (effE P call s.op ρ.get H) fun x => fVk x.1 fun v => match x.2 with
        | none => bif heldU P s.L H F then rE rest F (putT ρ s.d v) H else failE
        | some H' => fH H' fun H' => bif heldB P s.L H' (unF F) then rE rest (markE s.L F) (putT ρ s.d v) H' else failE
    else rE rest F (putT ρ s.d (.lit undef)) H

def loopE (f : Tr → MH → Rn (ME × Tr × MH)) : Nat → Tr → MH → Rn (ME × Tr × MH)
  | 0, _, _ => failE
  | n + 1, ρ, H => bindE (f ρ H) fun x => match x.1 with
    | .normal => loopE f n x.2.1 x.2.2
    | _ => retE x

def cE (pl : Nat → Option (List (Nat × List Nat) × List Nat)) (N : Nat) : Code → Tr → MH → Rn (ME × Tr × MH)
  | .skip, ρ, H => retE (.normal, ρ, H)
  | .region _ ops false, ρ, H => bindE (rE P call (stps ops.toList ops.toList) [] ρ H) fun x => retE (.normal, x.1, x.2)
  | .region id ops true, ρ, H => match pl id with
    | some x => bindE (rE P call (vstps ops x.2 x.1) [] ρ H) fun x => retE (.normal, x.1, x.2)
    | none => failE
  | .seq x y, ρ, H => bindE (cE pl N x ρ H) fun r => match r.1 with
    | .normal => cE pl N y r.2.1 r.2.2
    | _ => retE r
  | .cond c x y, ρ, H => match asB (ev ρ.get c) with
    | some true => cE pl N x ρ H
    | some false => cE pl N y ρ H
    | none => failE
  | .block id x, ρ, H => bindE (cE pl N x ρ H) fun r => match r.1 with
    | .exit i => bif Nat.beq i id then retE (.normal, r.2) else retE r
    | _ => retE r
  | .loop x, ρ, H => loopE (cE pl N x) N ρ H
  | .exit id, ρ, H => retE (.exit id, ρ, H)
  | .ret, ρ, H => retE (.ret, ρ, H)
  | .scope x, ρ, H => cE pl N x ρ H
  | .label _, ρ, H => retE (.normal, ρ, H)
  | _, _, _ => failE

def bodyE (pls : FuncId → Nat → Option (List (Nat × List Nat) × List Nat)) (N : Nat) (f : FuncId) (args : List MV) (H : MH) : Rn (MV × Option MH) :=
  match P.funcs[f]? with
  | some fn => match fn.body with
    | some c => bif Nat.ble args.length fn.ntmps then
        bindE (cE P call (pls f) N c (argsT args 0 .leaf) H) fun r => match r.1 with
          | .exit _ => failE
          | _ => match ress P r.2.1.get r.2.2 fn.results.toList with
            | some vs => retE (tupM vs, some r.2.2)
            | none => failE
      else failE
    | none => failE
  | none => failE
end

mutual
def clB : MV → Bool
  | .lit _ => true
  | .agg vs => clBs vs
  | .tup vs => clBs vs
  | .fn _ a b => clBs a && clBs b
  | _ => false
def clBs : List MV → Bool
  | [] => true
  | v :: vs => clB v && clBs vs
end
mutual
theorem clB_cl : ∀ v, clB v = true → Cl 0 [] v
  | .lit _, _ => by simp [Cl]
  | .ptr .., h => by simp [clB] at h
  | .slice .., h => by simp [clB] at h
  | .agg vs, h => by simp only [Cl]; exact clBs_cl vs (by simpa [clB] using h)
  | .tup vs, h => by simp only [Cl]; exact clBs_cl vs (by simpa [clB] using h)
  | .fn _ a b, h => by simp only [clB, Bool.and_eq_true] at h; simp only [Cl]; exact ⟨clBs_cl a h.1, clBs_cl b h.2⟩
theorem clBs_cl : ∀ vs, clBs vs = true → Cls' 0 [] vs
  | [], _ => by simp [Cls']
  | v :: vs, h => by simp only [clBs, Bool.and_eq_true] at h; simp only [Cls']; exact ⟨clB_cl v h.1, clBs_cl vs h.2⟩
end

/-- The same memory, to be read alone. -/
def roH (H : MH) : MH := H.map fun x => match x with
  | some o => some ⟨o.cells, false⟩
  | none => none

/-- Calls: what is known of a function ahead; which ones are run in a memory of their own. -/
def callE (P : Program) (pls : FuncId → Nat → Option (List (Nat × List Nat) × List Nat)) (kn : FuncId → List MV → MH → Option (MV × Option MH)) (iso ro : FuncId → Bool) (N : Nat) : Nat → CallE
  | 0 => fun _ _ _ => failE
  | n + 1 => fun f args H => match kn f args H with
    | some r => retE r
    | none => bif iso f && clBs args then bindE (bodyE P (callE P pls kn iso ro N n) pls N f args []) fun x => bif clB x.1 then retE (x.1, none) else failE
      else bif ro f then bindE (bodyE P (callE P pls kn iso ro N n) pls N f args (roH H)) fun x => bif clB x.1 then retE (x.1, none) else failE
      else bodyE P (callE P pls kn iso ro N n) pls N f args H

theorem Rel.empty (w : World) : Rel (fun _ => none) [] w where
  bound p l h := by cases h
  obj p l o h _ := by cases h
  inj p q l l' o o' h _ _ _ _ _ := by cases h

theorem closed_conc {μ μ' : Mu} {v : MV} (h : Cl 0 [] v) : conc μ v = conc μ' v := by
  have e1 := ok_mono (μ := fun _ => none) (μ' := μ) (fun p l h => by cases h) v (ok_free v h)
  have e2 := ok_mono (μ := fun _ => none) (μ' := μ') (fun p l h => by cases h) v (ok_free v h)
  rw [e1.2, e2.2]
theorem closed_concs {μ μ' : Mu} {vs : List MV} (h : Cls' 0 [] vs) : concs μ vs = concs μ' vs := by
  rw [concs_map, concs_map]
  exact List.map_congr_left fun v hv => closed_conc (cls_iff.1 h v hv)

/-- What a function does in a memory of its own it does in any. -/
theorem Spec.frame0 {P : Program} {f : FuncId} {args : List MV} {K : MV → MH → Prop} (h : Spec P f args [] K) (ha : Cls' 0 [] args) (hk : ∀ v H1, K v H1 → Cl 0 [] v) (H : MH) :
    Spec P f args H fun v H' => H' = H ∧ ∃ H1, K v H1 := by
  intro μ w hr hb _
  have h0 := h (fun _ => none) w (Rel.empty w) ⟨hb.cell, fun b o v _ ho => by obtain ⟨p, l, x, hp, _⟩ := ho; cases hp⟩ (oks_free args ha)
  rw [closed_concs (μ' := μ) ha] at h0
  refine h0.mono fun x w' ⟨v, H1, μ1, hk1, hx, hok, hr1, he⟩ => ?_
  have hcl := hk v H1 hk1
  have hno : ∀ b, ¬ Owned (fun _ => none) ([] : MH) b := by rintro b ⟨p, l, o, hp, _⟩; cases hp
  refine ⟨v, H, μ, ⟨rfl, H1, hk1⟩, by rw [hx]; exact closed_conc hcl, ok_free v hcl, ⟨hr.bound, fun p l o hp ho => ?_, hr.inj⟩, ⟨Mle.refl μ, fun _ _ h => .inl h, Nat.le_refl _, he.size, fun _ h _ => h, fun b hlt _ => he.frame b hlt (hno b), he.same⟩⟩
  have := hr.obj p l o hp ho
  exact this.mono (Mle.refl μ) (he.frame _ this.lt (hno _))

theorem hget_ro {H : MH} {p : Nat} : hget (roH H) p = (hget H p).map fun o => ⟨o.cells, false⟩ := by
  unfold hget roH
  rw [List.getElem?_map]
  cases H[p]? with
  | none => rfl
  | some x => cases x <;> rfl
theorem Rel.ro {μ : Mu} {H : MH} {w : World} (h : Rel μ H w) : Rel μ (roH H) w where
  bound p l hp := by unfold roH; rw [List.length_map]; exact h.bound p l hp
  obj p l o hp ho := by
    rw [hget_ro, Option.map_eq_some_iff] at ho
    obtain ⟨o', ho', rfl⟩ := ho
    obtain ⟨cs, t, fz, h1, h2, h3, h5, h6⟩ := h.obj p l o' hp ho'
    exact ⟨cs, t, fz, h1, h2, h3, fun hf => (by cases hf), h6⟩
  inj p q l l' o o' hp hq ho ho' hrw hne := by
    rw [hget_ro, Option.map_eq_some_iff] at ho
    obtain ⟨u, _, rfl⟩ := ho
    cases hrw
/-- What a function does where it can write nothing it does where it could, and leaves all as it was. -/
theorem Spec.frameR {P : Program} {f : FuncId} {args : List MV} {H : MH} {K : MV → MH → Prop} (h : Spec P f args (roH H) K) (hk : ∀ v H1, K v H1 → Cl 0 [] v) : Spec P f args H fun v H' => H' = H ∧ ∃ H1, K v H1 := by
  intro μ w hr hb ha
  have hno0 : ∀ b, ¬ Owned μ (roH H) b := by
    rintro b ⟨p, l, o, hp, ho, hrw, _⟩
    rw [hget_ro, Option.map_eq_some_iff] at ho
    obtain ⟨u, _, rfl⟩ := ho
    cases hrw
  refine (h μ w hr.ro ⟨hb.cell, fun b o v _ => hno0 b⟩ ha).mono fun x w' ⟨v, H1, μ1, hk1, hx, hok, hr1, he⟩ => ?_
  have hcl := hk v H1 hk1
  have hno : ∀ b, ¬ Owned μ (roH H) b := by
    rintro b ⟨p, l, o, hp, ho, hrw, _⟩
    rw [hget_ro, Option.map_eq_some_iff] at ho
    obtain ⟨u, _, rfl⟩ := ho
    cases hrw
  refine ⟨v, H, μ, ⟨rfl, H1, hk1⟩, by rw [hx]; exact closed_conc hcl, ok_free v hcl, ⟨hr.bound, fun p l o hp ho => ?_, hr.inj⟩, ⟨Mle.refl μ, fun _ _ h => .inl h, Nat.le_refl _, he.size, fun _ h _ => h, fun b hlt _ => he.frame b hlt (hno b), he.same⟩⟩
  have := hr.obj p l o hp ho
  exact this.mono (Mle.refl μ) (he.frame _ this.lt (hno _))

theorem rM_mono {P : Program} : ∀ (l : List Stp) (F : List (Nat × HF)) (ρ : Env) (H : MH) (K K' : Env → MH → Prop), (∀ ρ H, K ρ H → K' ρ H) → rM P l F ρ H K → rM P l F ρ H K' := by
  intro l
  induction l with
  | nil => intro F ρ H K K' hk h; exact hk _ _ h
  | cons s l ih =>
    intro F ρ H K K' hk h
    simp only [rM] at h ⊢
    split at h
    · rename_i hw
      rw [if_pos hw]
      split at h
      · exact ⟨h.1, ih _ _ _ _ _ hk h.2⟩
      · exact ⟨h.1, ih _ _ _ _ _ hk h.2⟩
      · exact ⟨h.1, ih _ _ _ _ _ hk h.2⟩
      · exact effM_mono (fun v H' hh => ⟨hh.1, ih _ _ _ _ _ hk hh.2⟩) h
    · rename_i hw
      rw [if_neg hw]
      exact ih _ _ _ _ _ hk h
theorem loopN_mono {P : Program} {c : Code} {Q Q' : MQ} (hq : ∀ e ρ H, Q e ρ H → Q' e ρ H) : ∀ (n : Nat) (ρ : Env) (H : MH), loopN (mwp P c) Q n ρ H → loopN (mwp P c) Q' n ρ H
  | 0, _, _, h => h
  | n + 1, ρ, H, h => by
    refine mwp_mono c _ _ ρ H ?_ h
    intro e ρ H he
    cases e with
    | normal => exact loopN_mono hq n ρ H he
    | exit id => exact hq _ _ _ he
    | ret => exact hq _ _ _ he

section
variable {P : Program} {call : CallE}

def CallOk (P : Program) (call : CallE) : Prop := ∀ f args H k τ, Tot (call f args H) k τ → Spec P f args H fun v H' => ∃ k' σ' u, Out (call f args H) k τ (v, u) k' σ' ∧ H' = u.getD H

theorem effE_sound (hc : CallOk P call) {o : Op} {ρ : Env} {H : MH} {k : Nat} {τ : Nat → Nat} (h : Tot (effE P call o ρ H) k τ) :
    effM P o ρ H fun v H' => ∃ k' σ' u, Out (effE P call o ρ H) k τ (v, u) k' σ' ∧ H' = u.getD H := by
  unfold effE at h
  unfold effM
  split at h
  · rename_i t x y
    simp only [effE]
    cases hs : storeV P t (ev ρ x) (ev ρ y) H with
    | none => rw [hs] at h; exact (not_fail h).elim
    | some H' => exact ⟨k, τ, _, .ret, rfl⟩
  · rename_i f args ats
    simp only [effE]
    cases hf : ev ρ f with
    | fn g a b =>
      rw [hf] at h
      cases g with
      | func g => exact hc g _ H k τ h
      | _ => exact (not_fail h).elim
    | _ => rw [hf] at h; exact (not_fail h).elim
  · rename_i s x ats
    simp only [effE]
    cases ha : appV P ats (ev ρ s) (ev ρ x) H with
    | none => rw [ha] at h; exact (not_fail h).elim
    | some r =>
      obtain ⟨r, H'⟩ := r
      cases r with
      | none => exact ⟨k, τ, _, .ret, rfl⟩
      | some r =>
        obtain ⟨cs, n, esz⟩ := r
        intro c hcn
        exact ⟨_, _, _, (Out.cap hcn).bind .ret, rfl⟩
  · rename_i s x ats
    simp only [effE]
    cases ha : copyV P ats (ev ρ s) (ev ρ x) H with
    | none => rw [ha] at h; exact (not_fail h).elim
    | some r => exact ⟨k, τ, _, .ret, rfl⟩
  · rename_i x ats
    simp only [effE]
    cases ha : clearV P ats (ev ρ x) H with
    | none => rw [ha] at h; exact (not_fail h).elim
    | some r => exact ⟨k, τ, _, .ret, rfl⟩
  · exact (not_fail h).elim

theorem rE_sound (hc : CallOk P call) : ∀ (l : List Stp) (F : HFs) (ρ : Tr) (H : MH) (k : Nat) (τ : Nat → Nat), Valid P H F → Tot (rE P call l F ρ H) k τ →
    rM P l (unF F) ρ.get H fun ρ' H' => ∃ ρ1 : Tr, ρ' = ρ1.get ∧ ∃ k' σ', Out (rE P call l F ρ H) k τ (ρ1, H') k' σ'
  | [], F, ρ, H, k, τ, _, h => ⟨ρ, rfl, k, τ, .ret⟩
  | s :: rest, F, ρ, H, k, τ, hF, h => by
    simp only [rM]
    cases hw : wantS s.g ρ.get with
    | false =>
      rw [if_neg (by simp)]
      simp only [rE, fVk_eq, fH_eq, hw, cond_false] at h ⊢
      have := rE_sound hc rest F _ H k τ hF h
      rw [putT_get] at this
      exact this
    | true =>
      rw [if_pos rfl]
      simp only [rE, fVk_eq, fH_eq, hw, cond_true] at h ⊢
      cases hcl : cls s.op with
      | pure =>
        simp only [hcl] at h ⊢
        cases hv : pureV P s.op ρ.get with
        | none => rw [hv] at h; exact (not_fail h).elim
        | some v =>
          simp only [hv] at h ⊢
          have := rE_sound hc rest F _ H k τ hF h
          rw [putT_get] at this
          exact ⟨rfl, this⟩
      | load =>
        simp only [hcl] at h ⊢
        cases hv : loadO P s.op ρ.get H with
        | none => rw [hv] at h; exact (not_fail h).elim
        | some v =>
          simp only [hv] at h ⊢
          have hsem : (HF.load (addr s.op ρ.get).1 (addr s.op ρ.get).2 v).sem P H := by
            unfold loadO at hv
            split at hv
            · rename_i t x he; rw [he]; exact hv
            · cases hv
          have := rE_sound hc rest _ _ H k τ (hF.hold hsem) h
          rw [putT_get, unF_hold] at this
          exact ⟨rfl, this⟩
      | alloc =>
        simp only [hcl] at h ⊢
        cases hv : allocV P s.op ρ.get with
        | none => rw [hv] at h; exact (not_fail h).elim
        | some v =>
          obtain ⟨cs, f⟩ := v
          simp only [hv] at h ⊢
          have := rE_sound hc rest _ _ _ k τ ((hF.grow (some ⟨cs, true⟩)).hold (hf := .obj H.length cs) hget_append_new) h
          rw [putT_get, unF_hold] at this
          exact ⟨rfl, this⟩
      | eff =>
        simp only [hcl] at h ⊢
        refine effM_mono ?_ (effE_sound hc h.left)
        rintro v H' ⟨k1, σ1, u, ho, rfl⟩
        have h2 := h.right ho
        simp only at h2
        cases u with
        | none =>
          simp only [Option.getD_none] at h2 ⊢
          cases hh : heldU P s.L H F with
          | false => rw [hh] at h2; exact (not_fail h2).elim
          | true =>
            rw [hh, cond_true] at h2
            refine ⟨heldU_held hF hh, ?_⟩
            have := rE_sound hc rest F _ H k1 σ1 hF h2
            rw [putT_get] at this
            refine rM_mono _ _ _ _ _ _ ?_ this
            rintro ρ' H'' ⟨ρ1, hρ, k2, σ2, ho2⟩
            refine ⟨ρ1, hρ, k2, σ2, ho.bind ?_⟩
            simp only [hh, cond_true]
            exact ho2
        | some H' =>
          simp only [Option.getD_some] at h2 ⊢
          cases hh : heldB P s.L H' (unF F) with
          | false => rw [hh] at h2; exact (not_fail h2).elim
          | true =>
            rw [hh, cond_true] at h2
            have hheld := heldB_held hh
            refine ⟨hheld, ?_⟩
            have := rE_sound hc rest (markE s.L F) _ H' k1 σ1 (Valid.mark hheld) h2
            rw [putT_get, unF_mark] at this
            refine rM_mono _ _ _ _ _ _ ?_ this
            rintro ρ' H'' ⟨ρ1, hρ, k2, σ2, ho2⟩
            refine ⟨ρ1, hρ, k2, σ2, ho.bind ?_⟩
            simp only [hh, cond_true]
            exact ho2

def Q1 (e : Rn (ME × Tr × MH)) (k : Nat) (τ : Nat → Nat) : MQ := fun m ρ' H' => ∃ ρ1 : Tr, ρ' = ρ1.get ∧ ∃ k' σ', Out e k τ (m, ρ1, H') k' σ'

/-- The orders told for a text's regions may be walked. -/
def plOk (pl : Nat → Option (List (Nat × List Nat) × List Nat)) : Code → Bool
  | .region id ops true => match pl id with
    | some x => vokR ops x.1 x.2
    | none => true
  | .seq x y => plOk pl x && plOk pl y
  | .cond _ x y => plOk pl x && plOk pl y
  | .block _ x => plOk pl x
  | .loop x => plOk pl x
  | .scope x => plOk pl x
  | _ => true
theorem plOk_none {pl : Nat → Option (List (Nat × List Nat) × List Nat)} (h : ∀ i, pl i = none) (c : Code) : plOk pl c = true := by
  induction c with
  | region id ops draw => cases draw <;> simp [plOk, h]
  | seq x y hx hy => simp [plOk, hx, hy]
  | cond c x y hx hy => simp [plOk, hx, hy]
  | block id x hx => simp [plOk, hx]
  | loop x hx => simp [plOk, hx]
  | scope x hx => simp [plOk, hx]
  | _ => rfl

theorem loop_sound {x : Code} {f : Tr → MH → Rn (ME × Tr × MH)} (hx : ∀ ρ H k τ, Tot (f ρ H) k τ → mwp P x (Q1 (f ρ H) k τ) ρ.get H) :
    ∀ (n : Nat) (ρ : Tr) (H : MH) (k : Nat) (τ : Nat → Nat), Tot (loopE f n ρ H) k τ → loopN (mwp P x) (Q1 (loopE f n ρ H) k τ) n ρ.get H
  | 0, _, _, _, _, h => not_fail h
  | n + 1, ρ, H, k, τ, h => by
    refine mwp_mono x _ _ ρ.get H ?_ (hx ρ H k τ h.left)
    rintro e ρ' H' ⟨ρ1, rfl, k1, σ1, ho⟩
    have h2 := h.right ho
    cases e with
    | normal =>
      refine loopN_mono ?_ n _ _ (loop_sound hx n ρ1 H' k1 σ1 h2)
      rintro e ρ' H'' ⟨ρ2, rfl, k2, σ2, ho2⟩
      exact ⟨ρ2, rfl, k2, σ2, ho.bind ho2⟩
    | exit id => exact ⟨ρ1, rfl, k1, σ1, ho.bind .ret⟩
    | ret => exact ⟨ρ1, rfl, k1, σ1, ho.bind .ret⟩

theorem cE_sound (hc : CallOk P call) (pl : Nat → Option (List (Nat × List Nat) × List Nat)) (N : Nat) : ∀ (c : Code), plOk pl c = true → ∀ (ρ : Tr) (H : MH) (k : Nat) (τ : Nat → Nat), Tot (cE P call pl N c ρ H) k τ →
    mwp P c (Q1 (cE P call pl N c ρ H) k τ) ρ.get H := by
  intro c
  induction c with
  | skip => intro hpl ρ H k τ h; exact ⟨ρ, rfl, k, τ, .ret⟩
  | region id ops draw =>
    intro hpl ρ H k τ h
    cases draw with
    | false =>
      refine rM_mono _ _ _ _ _ _ ?_ (rE_sound hc _ [] _ _ _ _ Valid.nil h.left)
      rintro ρ' H' ⟨ρ1, rfl, k1, σ1, ho⟩
      exact ⟨ρ1, rfl, k1, σ1, ho.bind .ret⟩
    | true =>
      unfold Q1
      simp only [cE] at h ⊢
      cases hp : pl id with
      | none => rw [hp] at h; exact (not_fail h).elim
      | some x =>
        simp only [hp] at h ⊢
        have hv : vokR ops x.1 x.2 = true := by simpa only [plOk, hp] using hpl
        refine ⟨x.1, x.2, hv, rM_mono _ _ _ _ _ _ ?_ (rE_sound hc _ [] _ _ _ _ Valid.nil h.left)⟩
        rintro ρ' H' ⟨ρ1, rfl, k1, σ1, ho⟩
        exact ⟨ρ1, rfl, k1, σ1, ho.bind .ret⟩
  | seq x y ihx ihy =>
    intro hpl ρ H k τ h
    simp only [plOk, Bool.and_eq_true] at hpl
    replace ihx := ihx hpl.1
    replace ihy := ihy hpl.2
    refine mwp_mono x _ _ _ H ?_ (ihx ρ H k τ h.left)
    rintro e ρ' H' ⟨ρ1, rfl, k1, σ1, ho⟩
    have h2 := h.right ho
    cases e with
    | normal =>
      refine mwp_mono y _ _ _ _ ?_ (ihy ρ1 H' k1 σ1 h2)
      rintro e ρ' H'' ⟨ρ2, rfl, k2, σ2, ho2⟩
      exact ⟨ρ2, rfl, k2, σ2, ho.bind ho2⟩
    | exit id => exact ⟨ρ1, rfl, k1, σ1, ho.bind .ret⟩
    | ret => exact ⟨ρ1, rfl, k1, σ1, ho.bind .ret⟩
  | cond c x y ihx ihy =>
    intro hpl ρ H k τ h
    simp only [plOk, Bool.and_eq_true] at hpl
    replace ihx := ihx hpl.1
    replace ihy := ihy hpl.2
    unfold Q1
    simp only [cE] at h ⊢
    cases hb : asB (ev ρ.get c) with
    | none => rw [hb] at h; exact (not_fail h).elim
    | some b =>
      cases b with
      | true => simp only [hb] at h ⊢; exact ⟨true, hb, fun _ => ihx ρ H k τ h, fun hf => by cases hf⟩
      | false => simp only [hb] at h ⊢; exact ⟨false, hb, fun hf => (by cases hf), fun _ => ihy ρ H k τ h⟩
  | block id x ih =>
    intro hpl ρ H k τ h
    simp only [plOk] at hpl
    replace ih := ih hpl
    refine mwp_mono x _ _ _ H ?_ (ih ρ H k τ h.left)
    rintro e ρ' H' ⟨ρ1, rfl, k1, σ1, ho⟩
    cases e with
    | normal => exact ⟨ρ1, rfl, k1, σ1, ho.bind .ret⟩
    | ret => exact ⟨ρ1, rfl, k1, σ1, ho.bind .ret⟩
    | exit i =>
      simp only [blockQ]
      split
      · rename_i hi
        refine ⟨ρ1, rfl, k1, σ1, ho.bind ?_⟩
        subst hi
        simp only [Nat.beq_refl, cond_true]
        exact .ret
      · rename_i hi
        refine ⟨ρ1, rfl, k1, σ1, ho.bind ?_⟩
        simp only [beq_dec', hi, decide_false, cond_false]
        exact .ret
  | loop x ih =>
    intro hpl ρ H k τ h
    simp only [plOk] at hpl
    replace ih := ih hpl
    exact ⟨N, loop_sound (f := cE P call pl N x) ih N ρ H k τ h⟩
  | scope x ih =>
    intro hpl ρ H k τ h
    exact ih (by simpa only [plOk] using hpl) ρ H k τ h
  | label id => intro hpl ρ H k τ h; exact ⟨ρ, rfl, k, τ, .ret⟩
  | exit id => intro hpl ρ H k τ h; exact ⟨ρ, rfl, k, τ, .ret⟩
  | ret => intro hpl ρ H k τ h; exact ⟨ρ, rfl, k, τ, .ret⟩
  | _ => intro hpl ρ H k τ h; exact (not_fail h).elim

/-- What is looked at of a program's functions ahead of all runs. -/
def FOk (P : Program) (pls : FuncId → Nat → Option (List (Nat × List Nat) × List Nat)) : Prop := ∀ (f : FuncId) fn c, P.funcs[f]? = some fn → fn.body = some c → fn.name ≠ "runtime.NumGoroutine" ∧ codeOk fn.ntmps c = true ∧ plOk (pls f) c = true

theorem bodyE_sound (hm : P.follows .mixedOrders = true) (pls : FuncId → Nat → Option (List (Nat × List Nat) × List Nat)) (hn : FOk P pls) (hc : CallOk P call) (N : Nat) :
    CallOk P (bodyE P call pls N) := by
  intro f args H k τ h
  unfold bodyE at h ⊢
  cases hf : P.funcs[f]? with
  | none => simp only [hf] at h; exact (not_fail h).elim
  | some fn =>
    simp only [hf] at h ⊢
    cases hb : fn.body with
    | none => simp only [hb] at h; exact (not_fail h).elim
    | some c =>
      simp only [hb] at h ⊢
      obtain ⟨hn1, hn2, hn3⟩ := hn f fn c hf hb
      cases hg : Nat.ble args.length fn.ntmps with
      | false => simp only [hg, cond_false] at h; exact (not_fail h).elim
      | true =>
        simp only [hg, cond_true] at h ⊢
        refine spec_of_body hm hf hb hn1 (Nat.le_of_ble_eq_true hg) hn2 ?_
        rw [← argsT_args0]
        refine mwp_mono c _ _ _ H ?_ (cE_sound hc (pls f) N c hn3 _ H k τ h.left)
        rintro e ρ' H' ⟨ρ1, rfl, k1, σ1, ho⟩
        have h2 := h.right ho
        cases e with
        | exit i => exact (not_fail h2).elim
        | normal =>
          simp only at h2
          cases hr : ress P ρ1.get H' fn.results.toList with
          | none => simp only [hr] at h2; exact (not_fail h2).elim
          | some vs =>
            refine ⟨vs, hr, k1, σ1, some H', ho.bind ?_, rfl⟩
            simp only [hr]
            exact .ret
        | ret =>
          simp only at h2
          cases hr : ress P ρ1.get H' fn.results.toList with
          | none => simp only [hr] at h2; exact (not_fail h2).elim
          | some vs =>
            refine ⟨vs, hr, k1, σ1, some H', ho.bind ?_, rfl⟩
            simp only [hr]
            exact .ret

theorem callE_sound (hm : P.follows .mixedOrders = true) (pls : FuncId → Nat → Option (List (Nat × List Nat) × List Nat)) (hn : FOk P pls) (N : Nat)
    {kn : FuncId → List MV → MH → Option (MV × Option MH)} (hk : ∀ f args H r, kn f args H = some r → Spec P f args H fun v' H' => v' = r.1 ∧ H' = r.2.getD H) (iso ro : FuncId → Bool) : ∀ n, CallOk P (callE P pls kn iso ro N n)
  | 0 => fun _ _ _ _ _ h => (not_fail h).elim
  | n + 1 => by
    have hb := bodyE_sound hm pls hn (callE_sound hm pls hn N hk iso ro n) N
    intro f args H k τ h
    unfold callE at h ⊢
    cases hkn : kn f args H with
    | some r =>
      simp only [hkn] at h ⊢
      refine (hk f args H r hkn).mono ?_
      rintro v' H' ⟨rfl, rfl⟩
      exact ⟨k, τ, _, .ret, rfl⟩
    | none =>
      simp only [hkn] at h ⊢
      cases hi : iso f && clBs args with
      | false =>
        simp only [hi, cond_false] at h ⊢
        cases hro : ro f with
        | false => simp only [hro, cond_false] at h ⊢; exact hb f args H k τ h
        | true =>
          simp only [hro, cond_true] at h ⊢
          have hcl : ∀ v H1, (∃ k' σ' u, Out (bodyE P (callE P pls kn iso ro N n) pls N f args (roH H)) k τ (v, u) k' σ' ∧ H1 = u.getD (roH H)) → clB v = true := by
            rintro v H1 ⟨k1, σ1, u, ho, _⟩
            have h2 := h.right ho
            cases hv : clB v with
            | true => rfl
            | false => simp only [hv, cond_false] at h2; exact (not_fail h2).elim
          refine (Spec.frameR (hb f args (roH H) k τ h.left) (fun v H1 hv => clB_cl v (hcl v H1 hv))).mono ?_
          rintro v H' ⟨rfl, H1, k1, σ1, u, ho, he⟩
          refine ⟨k1, σ1, none, ho.bind ?_, rfl⟩
          simp only [hcl v H1 ⟨k1, σ1, u, ho, he⟩, cond_true]
          exact .ret
      | true =>
        simp only [hi, cond_true] at h ⊢
        rw [Bool.and_eq_true] at hi
        have hcl : ∀ v H1, (∃ k' σ' u, Out (bodyE P (callE P pls kn iso ro N n) pls N f args []) k τ (v, u) k' σ' ∧ H1 = u.getD []) → clB v = true := by
          rintro v H1 ⟨k1, σ1, u, ho, _⟩
          have h2 := h.right ho
          cases hv : clB v with
          | true => rfl
          | false => simp only [hv, cond_false] at h2; exact (not_fail h2).elim
        refine (Spec.frame0 (hb f args [] k τ h.left) (clBs_cl args hi.2) (fun v H1 hv => clB_cl v (hcl v H1 hv)) H).mono ?_
        rintro v H' ⟨rfl, H1, k1, σ1, u, ho, he⟩
        refine ⟨k1, σ1, none, ho.bind ?_, rfl⟩
        simp only [hcl v H1 ⟨k1, σ1, u, ho, he⟩, cond_true]
        exact .ret

/-- A run that was reckoned: it comes to an end that K holds of, however much room appends get. -/
theorem run_spec (hm : P.follows .mixedOrders = true) (pls : FuncId → Nat → Option (List (Nat × List Nat) × List Nat)) (hn : FOk P pls) (N n : Nat)
    {kn : FuncId → List MV → MH → Option (MV × Option MH)} (hk : ∀ f args H r, kn f args H = some r → Spec P f args H fun v' H' => v' = r.1 ∧ H' = r.2.getD H) (iso ro : FuncId → Bool) {f : FuncId} {args : List MV} {H : MH} {K : MV → MH → Prop}
    (h : ∀ σ, ∃ v H' k', callE P pls kn iso ro N n f args H σ 0 = some ((v, H'), k') ∧ K v (H'.getD H)) : Spec P f args H K := by
  refine (callE_sound hm pls hn N hk iso ro n f args H 0 (fun _ => 0) fun σ _ => ?_).mono ?_
  · obtain ⟨v, H', k', he, _⟩ := h σ
    rw [he]; rfl
  · rintro v H' ⟨k', σ', u, ho, rfl⟩
    obtain ⟨v1, H1, k1, he, hK⟩ := h σ'
    rw [ho.eq σ' agree.refl] at he
    cases he
    exact hK

/-- A function of known values that answers a known one. -/
theorem run_bool (hm : P.follows .mixedOrders = true) (pls : FuncId → Nat → Option (List (Nat × List Nat) × List Nat)) (hn : FOk P pls) (N n : Nat)
    {kn : FuncId → List MV → MH → Option (MV × Option MH)} (hk : ∀ f args H r, kn f args H = some r → Spec P f args H fun v' H' => v' = r.1 ∧ H' = r.2.getD H) (iso ro : FuncId → Bool) {f : FuncId} {args : List MV} {r : MV}
    (hcl : clBs args = true) (hcr : clB r = true) (h : ∀ σ, (match callE P pls kn iso ro N n f args [] σ 0 with | some ((v, _), _) => eqB v r | none => false) = true) (H : MH) : Spec P f args H fun v H' => v = r ∧ H' = H := by
  have h1 : Spec P f args [] fun v H' => v = r := by
    refine run_spec hm pls hn N n hk iso ro fun σ => ?_
    have := h σ
    split at this
    · rename_i v H' k' he
      exact ⟨v, H', k', he, eqB_eq v r this⟩
    · cases this
  refine (h1.frame0 (clBs_cl args hcl) (fun v H1 hv => by rw [hv]; exact clB_cl r hcr) H).mono ?_
  rintro v H' ⟨h1, _, h2⟩
  exact ⟨h2, h1⟩
end
end Go.Proofs.YtcikcinkjbbnhaaDoor.M
