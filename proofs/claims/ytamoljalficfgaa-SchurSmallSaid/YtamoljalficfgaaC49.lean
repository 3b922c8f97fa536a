/- hess.Reduce: what it answers. -/
import Derived.Test.YtamoljalficfgaaC48
set_option linter.unusedSimpArgs false
set_option linter.unusedVariables false
set_option pp.deepTerms false
set_option pp.maxSteps 1500
set_option maxRecDepth 10000
set_option maxHeartbeats 8000000
namespace Go.Proofs.Ytamoljalficfgaa.M
open Go Go.Proofs

theorem Old.junk {H C : MH} (h : Old H C) : ∃ J, C = H ++ J := by
  refine ⟨C.drop H.length, ?_⟩
  have ht : C.take H.length = H := by
    apply List.ext_getElem?
    intro i
    rw [List.getElem?_take]
    split
    · exact h.2 i (by assumption)
    · rw [List.getElem?_eq_none (by omega)]
  conv => lhs; rw [← List.take_append_drop H.length C, ht]
theorem reduce_ok {n : Int} {p z : Nat} {D : List Int} (h : MatOk n n D) (hI : InD D) (hn8 : n ≤ 90) {N : Nat} (hN : D.length = N) {H : MH} {rw : Bool} (hp : hget H p = some ⟨D.map u64, rw⟩) (hfin : finD D = true) (hR : (redM n D).1 = 0) :
    Spec Try.prog 18 [mx n n n p N z] H fun u H' => u = .tup [mx n n n H.length N N, mx n n n (H.length + 1) N N, i64 (unitE n n D), i64 0] ∧ H' = H ++ [some ⟨(redM n D).2.1.map u64, true⟩, some ⟨(redM n D).2.2.map u64, true⟩] := by
  refine Spec.twoX (v := fun p p' => .tup [mx n n n p N N, mx n n n p' N N, i64 (unitE n n D), i64 0]) (closed_u64 _) (closed_u64 _) (fun p p' => by simp [Cl, Cls']) (fun π p p' _ _ => by simp [ren, rens]) ?_
  refine (reduce_core h hI hn8 hN (z := z) hp hfin).mono ?_
  rintro u H' (⟨_, p1, p2, h1, h2, h3, h4, h5, h6, h7⟩ | ⟨h1, _⟩)
  · exact ⟨p1, p2, h1, h2, h3, h4, h5, h6, h7.2⟩
  · rw [hR] at h1; cases h1
theorem reduce_er {n : Int} {p z : Nat} {D : List Int} (h : MatOk n n D) (hI : InD D) (hn8 : n ≤ 90) {N : Nat} (hN : D.length = N) {H : MH} {rw : Bool} (hp : hget H p = some ⟨D.map u64, rw⟩) (hfin : finD D = true) (hR : ¬ (redM n D).1 = 0) :
    Spec Try.prog 18 [mx n n n p N z] H fun u H' => u = .tup [mx0, mx0, i64 0, i64 6] ∧ H' = H := by
  refine Spec.scalar ((reduce_core h hI hn8 hN (z := z) hp hfin).mono ?_)
  rintro u H' (⟨h1, _⟩ | ⟨_, h1, h2⟩)
  · exact absurd h1 hR
  · exact ⟨h2.junk, by rw [h1]; simp [Cl, Cls'], h1⟩
theorem reduce_nf {n : Int} {p z : Nat} {D : List Int} (h : MatOk n n D) {N : Nat} (hN : D.length = N) {H : MH} {rw : Bool} (hp : hget H p = some ⟨D.map u64, rw⟩) (hfin : finD D = false) :
    Spec Try.prog 18 [mx n n n p N z] H fun u H' => u = .tup [mx0, mx0, i64 0, i64 6] ∧ H' = H := by
  have hpl := lt_of_hget hp
  refine Spec.scalar (enterS Try.func18 [.cell 2 26, .cell 3 26, .tmp 4, .tmp 5] ?_)
  repeat' first | (with_reducible (show W _ _ _ _ _); with_reducible refine go2 ?_) | (with_reducible (show W _ _ _ _ _); with_reducible refine sg2 ?_ ?_ <;> intro _) | (with_reducible (show W _ _ _ _ _); with_reducible refine sc2 ?_ ?_ <;> intro _) | (with_reducible (show CallK _ _ _ _ _ _ _ _ _ _ _); with_reducible refine ce2 (check_ok h hN _) ?_) | (with_reducible (show CallK _ _ _ _ _ _ _ _ _ _ _); with_reducible refine ce2 (finite_mspec h hN ((hget_old hpl).trans hp)) ?_) | (with_reducible (show W _ _ (.code (.region 24 _ true) :: _) _ _); with_reducible refine W_draw [(0, []), (1, []), (2, []), (3, [1]), (4, []), (5, []), (6, [])] [1] (by kernel_rfl) ?_)
  all_goals trivial
theorem reduce_shape {r c : Int} {p z : Nat} {D : List Int} (h : MatOk r c D) (hrc : ¬ r = c) {N : Nat} (hN : D.length = N) (H : MH) :
    Spec Try.prog 18 [mx r c c p N z] H fun u H' => u = .tup [mx0, mx0, i64 0, i64 4] ∧ H' = H := by
  refine Spec.scalar (enterS Try.func18 [.cell 2 26, .cell 3 26, .tmp 4, .tmp 5] ?_)
  repeat' first | (with_reducible (show W _ _ _ _ _); with_reducible refine go2 ?_) | (with_reducible (show W _ _ _ _ _); with_reducible refine sg2 ?_ ?_ <;> intro _) | (with_reducible (show W _ _ _ _ _); with_reducible refine sc2 ?_ ?_ <;> intro _) | (with_reducible (show CallK _ _ _ _ _ _ _ _ _ _ _); with_reducible refine ce2 (check_ok h hN _) ?_) | (with_reducible (show W _ _ (.code (.region 24 _ true) :: _) _ _); with_reducible refine W_draw [(0, []), (1, []), (2, []), (3, [1]), (4, []), (5, []), (6, [])] [1] (by kernel_rfl) ?_)
  all_goals trivial
/-- A matrix whose rows lie one over the other is none. -/
theorem check_str {r c s : Int} (hs : s < c) (p n z : Nat) (H : MH) : Spec Try.prog 30 [mx r c s p n z] H fun v H' => v = i64 4 ∧ H' = H := by
  refine Spec.scalar (enterS Try.func30 [.tmp 2] ?_)
  repeat' first | (with_reducible (show W _ _ _ _ _); with_reducible refine go2 ?_) | (with_reducible (show W _ _ _ _ _); with_reducible refine sg2 ?_ ?_ <;> intro _) | (with_reducible (show W _ _ _ _ _); with_reducible refine sc2 ?_ ?_ <;> intro _)
  all_goals trivial
theorem reduce_str {r c s : Int} (hs : s < c) (p N z : Nat) (H : MH) :
    Spec Try.prog 18 [mx r c s p N z] H fun u H' => u = .tup [mx0, mx0, i64 0, i64 4] ∧ H' = H := by
  refine Spec.scalar (enterS Try.func18 [.cell 2 26, .cell 3 26, .tmp 4, .tmp 5] ?_)
  repeat' first | (with_reducible (show W _ _ _ _ _); with_reducible refine go2 ?_) | (with_reducible (show W _ _ _ _ _); with_reducible refine sg2 ?_ ?_ <;> intro _) | (with_reducible (show W _ _ _ _ _); with_reducible refine sc2 ?_ ?_ <;> intro _) | (with_reducible (show CallK _ _ _ _ _ _ _ _ _ _ _); with_reducible refine ce2 (check_str hs _ _ _ _) ?_) | (with_reducible (show W _ _ (.code (.region 24 _ true) :: _) _ _); with_reducible refine W_draw [(0, []), (1, []), (2, []), (3, [1]), (4, []), (5, []), (6, [])] [1] (by kernel_rfl) ?_)
  all_goals trivial
end Go.Proofs.Ytamoljalficfgaa.M
