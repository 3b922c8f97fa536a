/- The small machine, eleventh part: a statement whose order of evaluation is drawn may be walked in one order that is told ahead: what may be checked of the order by looking at the text alone. -/
import Derived.Test.YtojppdcbnpinbaaM10
set_option linter.unusedSimpArgs false
set_option linter.unusedVariables false
namespace Go.Proofs.Ytojppdcbnpinbaa.M
open Go

/-- Operation i waits for operation j, by a chain of edges. -/
inductive Anc (ops : Array Oper) : Nat → Nat → Prop
  | edge {i o e} : ops[i]? = some o → e ∈ o.after → Region.binds .any e = true → Anc ops e.on i
  | step {i o e j} : ops[i]? = some o → e ∈ o.after → Region.binds .any e = true → Anc ops j e.on → Anc ops j i

def mask (o : Oper) (acc : Array Nat) : Nat := o.after.toList.foldl (fun s e => if Region.binds .any e then s ||| (1 <<< e.on ||| acc.getD e.on 0) else s) 0
def bef : List Oper → Array Nat → Array Nat
  | [], acc => acc
  | o :: os, acc => bef os (acc.push (mask o acc))

theorem mask_spec {ops : Array Oper} {i : Nat} {o : Oper} (ho : ops[i]? = some o) {acc : Array Nat} (hacc : ∀ k j, (acc.getD k 0).testBit j = true → Anc ops j k) :
    ∀ (l : List Edge) (s : Nat), (∀ e ∈ l, e ∈ o.after) → (∀ j, s.testBit j = true → Anc ops j i) →
      ∀ j, (l.foldl (fun s e => if Region.binds .any e then s ||| (1 <<< e.on ||| acc.getD e.on 0) else s) s).testBit j = true → Anc ops j i
  | [], s, _, hs, j, h => hs j h
  | e :: l, s, hl, hs, j, h => by
    rw [List.foldl_cons] at h
    refine mask_spec ho hacc l _ (fun e' he' => hl e' (List.mem_cons_of_mem _ he')) ?_ j h
    intro j hj
    split at hj
    · rename_i hb
      rw [Nat.testBit_or, Nat.testBit_or, Bool.or_eq_true, Bool.or_eq_true] at hj
      rcases hj with h1 | h1 | h1
      · exact hs j h1
      · have : j = e.on := by
          rw [Nat.testBit_shiftLeft] at h1
          simp only [Bool.and_eq_true, decide_eq_true_eq] at h1
          rcases Nat.lt_or_ge 0 (j - e.on) with h2 | h2
          · have h3 := h1.2
            rw [Nat.testBit_one_eq_true_iff_self_eq_zero] at h3
            omega
          · omega
        subst this
        exact .edge ho (hl e (List.mem_cons_self ..)) hb
      · exact .step ho (hl e (List.mem_cons_self ..)) hb (hacc _ j h1)
    · exact hs j hj

theorem bef_spec {ops : Array Oper} : ∀ (l : List Oper) (acc : Array Nat), (∀ k, l[k]? = ops[acc.size + k]?) → (∀ k j, (acc.getD k 0).testBit j = true → Anc ops j k) →
    ∀ k j, ((bef l acc).getD k 0).testBit j = true → Anc ops j k
  | [], acc, _, h, k, j, hj => h k j hj
  | o :: l, acc, hl, h, k, j, hj => by
    refine bef_spec l (acc.push (mask o acc)) (fun k => ?_) ?_ k j hj
    · have := hl (k + 1)
      simp only [List.getElem?_cons_succ] at this
      rw [this, Array.size_push]
      congr 1; omega
    · intro k j hj
      have ho : ops[acc.size]? = some o := by have := hl 0; simpa using this.symm
      by_cases hk : k = acc.size
      · subst hk
        have hj' : (mask o acc).testBit j = true := by simpa [Array.getD_eq_getD_getElem?] using hj
        exact mask_spec ho h o.after.toList 0 (fun e he => Array.mem_toList_iff.1 he) (fun j h => by simp at h) j hj'
      · refine h k j ?_
        rw [Array.getD_eq_getD_getElem?, Array.getElem?_push, if_neg hk] at hj
        rwa [Array.getD_eq_getD_getElem?]

def befs (ops : Array Oper) : Array Nat := bef ops.toList #[]
theorem befs_spec {ops : Array Oper} {k j : Nat} (h : ((befs ops).getD k 0).testBit j = true) : Anc ops j k :=
  bef_spec ops.toList #[] (fun k => by simp) (fun k j h => by simp [Array.getD_eq_getD_getElem?] at h) k j h

def vchk (ops : Array Oper) (b : Array Nat) : List Nat → List (Nat × List Nat) → Bool
  | _, [] => true
  | pre, (i, L) :: rest => match ops[i]? with
    | none => false
    | some o =>
      !pre.contains i && o.after.all (fun e => !Region.binds .any e || pre.contains e.on) &&
      pre.all (fun j => match ops[j]? with
        | some oj => (cls oj.op != .eff || (b.getD i 0).testBit j) && (cls o.op != .eff || cls oj.op == .pure || cls oj.op == .eff || (b.getD i 0).testBit j || L.contains j)
        | none => false) &&
      vchk ops b (pre ++ [i]) rest

def ssaB (ops : Array Oper) (b : Array Nat) : Bool :=
  (List.range ops.size).all fun i => (List.range ops.size).all fun j => i == j || match ops[i]?, ops[j]? with
    | some oi, some oj => match oj.dst with
      | some d => oi.dst != some d && (!(oi.looksAt ops).contains d || (b.getD i 0).testBit j || (b.getD j 0).testBit i)
      | none => true
    | _, _ => true

/-- The order pl may be walked. -/
def vok (ops : Array Oper) (pl : List (Nat × List Nat)) : Bool :=
  let b := befs ops
  let is := pl.map (·.1)
  (List.range ops.size).all (fun i => is.contains i) && vchk ops b [] pl && ssaB ops b && Region.noSelect ops

structure VOk (ops : Array Oper) (pl : List (Nat × List Nat)) : Prop where
  all : ∀ i, i < ops.size → i ∈ pl.map (·.1)
  top : ∀ p q i L, pl = p ++ (i, L) :: q → ∃ o, ops[i]? = some o ∧ i ∉ p.map (·.1) ∧ (∀ e ∈ o.after, Region.binds .any e = true → e.on ∈ p.map (·.1)) ∧
    (∀ j ∈ p.map (·.1), ∀ oj, ops[j]? = some oj → (cls oj.op = .eff → Anc ops j i) ∧ (cls o.op = .eff → (cls oj.op = .load ∨ cls oj.op = .alloc) → Anc ops j i ∨ j ∈ L))
  ssa : ∀ i j oi oj d, i ≠ j → ops[i]? = some oi → ops[j]? = some oj → oj.dst = some d → oi.dst ≠ some d ∧ (d ∈ oi.looksAt ops → Anc ops j i ∨ Anc ops i j)

theorem vchk_spec {ops : Array Oper} {b : Array Nat} (hb : ∀ k j, (b.getD k 0).testBit j = true → Anc ops j k) : ∀ (pl : List (Nat × List Nat)) (pre : List Nat), vchk ops b pre pl = true →
    ∀ p q i L, pl = p ++ (i, L) :: q → ∃ o, ops[i]? = some o ∧ i ∉ pre ++ p.map (·.1) ∧ (∀ e ∈ o.after, Region.binds .any e = true → e.on ∈ pre ++ p.map (·.1)) ∧
    (∀ j ∈ pre ++ p.map (·.1), ∀ oj, ops[j]? = some oj → (cls oj.op = .eff → Anc ops j i) ∧ (cls o.op = .eff → (cls oj.op = .load ∨ cls oj.op = .alloc) → Anc ops j i ∨ j ∈ L))
  | [], pre, _, p, q, i, L, he => by cases p <;> cases he
  | (i0, L0) :: pl, pre, h, [], q, i, L, he => by
    simp only [List.nil_append, List.cons.injEq, Prod.mk.injEq] at he
    obtain ⟨⟨rfl, rfl⟩, rfl⟩ := he
    simp only [vchk] at h
    cases ho : ops[i0]? with
    | none => rw [ho] at h; simp at h
    | some o =>
      rw [ho] at h
      simp only [Bool.and_eq_true, Bool.not_eq_true', List.contains_eq_mem, decide_eq_false_iff_not] at h
      obtain ⟨⟨⟨h1, h2⟩, h3⟩, h4⟩ := h
      refine ⟨o, rfl, by simpa using h1, fun e he hbd => ?_, fun j hj oj hoj => ?_⟩
      · have := Array.all_eq_true_iff_forall_mem.1 h2 e he
        simpa [hbd] using this
      · have h5 := List.all_eq_true.1 h3 j (by simpa using hj)
        rw [hoj] at h5
        simp only [Bool.and_eq_true, Bool.or_eq_true, bne_iff_ne, ne_eq, beq_iff_eq, decide_eq_true_eq] at h5
        refine ⟨fun hc => ?_, fun hc hcl => ?_⟩
        · rcases h5.1 with h6 | h6
          · exact absurd hc h6
          · exact hb _ _ h6
        · rcases h5.2 with (((h6 | h6) | h6) | h6) | h6
          · exact absurd hc h6
          · rw [h6] at hcl; rcases hcl with h | h <;> cases h
          · rw [h6] at hcl; rcases hcl with h | h <;> cases h
          · exact .inl (hb _ _ h6)
          · exact .inr h6
  | (i0, L0) :: pl, pre, h, (i1, L1) :: p, q, i, L, he => by
    simp only [List.cons_append, List.cons.injEq, Prod.mk.injEq] at he
    obtain ⟨⟨rfl, rfl⟩, rfl⟩ := he
    simp only [vchk] at h
    cases ho : ops[i0]? with
    | none => rw [ho] at h; simp at h
    | some o =>
      rw [ho] at h
      simp only [Bool.and_eq_true] at h
      obtain ⟨o', h1, h2, h3, h4⟩ := vchk_spec hb _ (pre ++ [i0]) h.2 p q i L rfl
      exact ⟨o', h1, by simpa using h2, by simpa using h3, by simpa using h4⟩

theorem vok_spec {ops : Array Oper} {pl : List (Nat × List Nat)} (h : vok ops pl = true) : VOk ops pl := by
  simp only [vok, Bool.and_eq_true] at h
  obtain ⟨⟨⟨h1, h2⟩, h3⟩, _⟩ := h
  refine ⟨fun i hi => ?_, fun p q i L he => ?_, fun i j oi oj d hne hoi hoj hd => ?_⟩
  · have := List.all_eq_true.1 h1 i (List.mem_range.2 hi)
    simpa using this
  · have := vchk_spec (fun k j => befs_spec) pl [] h2 p q i L he
    simpa using this
  · have hi := (Array.getElem?_eq_some_iff.1 hoi).1
    have hj := (Array.getElem?_eq_some_iff.1 hoj).1
    have h4 := List.all_eq_true.1 (List.all_eq_true.1 h3 i (List.mem_range.2 hi)) j (List.mem_range.2 hj)
    rw [hoi, hoj] at h4
    simp only [hd, Bool.or_eq_true, beq_iff_eq, hne, false_or, Bool.and_eq_true, bne_iff_ne, ne_eq, Bool.not_eq_true', List.contains_eq_mem, decide_eq_false_iff_not] at h4
    refine ⟨h4.1, fun hm => ?_⟩
    rcases h4.2 with (h5 | h5) | h5
    · exact absurd hm h5
    · exact .inl (befs_spec h5)
    · exact .inr (befs_spec h5)

/-! ### What has come up is closed under waiting -/

def Closed (ops : Array Oper) (X : Nat → Bool) : Prop := ∀ i o, ops[i]? = some o → X i = true → ∀ e ∈ o.after, Region.binds .any e = true → X e.on = true

theorem Closed.anc {ops : Array Oper} {X : Nat → Bool} (hc : Closed ops X) {j i : Nat} (h : Anc ops j i) (hi : X i = true) : X j = true := by
  induction h with
  | edge ho he hb => exact hc _ _ ho hi _ he hb
  | step ho he hb _ ih => exact ih (hc _ _ ho hi _ he hb)

theorem anc_ready {ops : Array Oper} {X : Nat → Bool} (hc : Closed ops X) {i : Nat} {o : Oper} (ho : ops[i]? = some o) (hr : ∀ e ∈ o.after, Region.binds .any e = true → X e.on = true) {j : Nat} (h : Anc ops j i) : X j = true := by
  cases h with
  | edge ho' he hb => rw [ho] at ho'; cases ho'; exact hr _ he hb
  | step ho' he hb h => rw [ho] at ho'; cases ho'; exact hc.anc h (hr _ he hb)

end Go.Proofs.Ytojppdcbnpinbaa.M
