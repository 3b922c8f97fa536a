/- Where a reflection doesn't fit. -/
import Derived.Test.YtojppdcbnpinbaaC37
import Derived.Test.YtojppdcbnpinbaaC31
set_option linter.unusedSimpArgs false
set_option linter.unusedVariables false
set_option maxRecDepth 10000
set_option maxHeartbeats 8000000
namespace Go.Proofs.Ytojppdcbnpinbaa.M
open Go Go.Proofs

/-- What is new is forgotten; the answer speaks of what was there. -/
theorem Spec.scalarP {P : Program} {f : FuncId} {args : List MV} {H : MH} {r : MV} (hcl : Cl H.length [] r) (hren : ∀ π : Nat → Nat, (∀ p, p < H.length → π p = p) → ren π r = r) (h : Spec P f args H fun v H' => (∃ junk, H' = H ++ junk) ∧ v = r) : Spec P f args H fun v H' => v = r ∧ H' = H := by
  refine Spec.gc h ?_
  rintro v H1 ⟨⟨junk, rfl⟩, rfl⟩
  refine ⟨H, junk, [], rfl, rfl, List.nodup_nil, by simp, fun p o ho => .inl ho, by simp, hcl, ?_, by simp⟩
  exact hren _ fun p hp => by simp [keep, hp]
theorem check_zero (H : MH) : Spec Try.prog 30 [mx0] H fun v H' => v = i64 0 ∧ H' = H := by
  refine Spec.scalar (enterS Try.func30 [.tmp 2] ?_)
  repeat' first | (with_reducible (show W _ _ _ _ _); with_reducible refine go2 ?_) | (with_reducible (show W _ _ _ _ _); with_reducible refine sg2 ?_ ?_ <;> intro _) | (with_reducible (show W _ _ _ _ _); with_reducible refine sc2 ?_ ?_ <;> intro _)
  all_goals trivial
theorem right_zero_bad {v : MV} {V : List Int} {H : MH} (cp : MV) (hv : Sl H v V) (tau m : Int) (hl : 0 < V.length) : Spec Try.prog 17 [.agg [v, u64 tau], cp, mx0, i64 m] H fun u H' => u = .tup [mx0, i64 4] ∧ H' = H := by
  have hrows : rowsB V.length 0 m = false := by
    simp only [rowsB, Bool.and_eq_false_iff, decide_eq_false_iff_not]
    exact .inl (.inr (by omega))
  refine Spec.scalar (enterS Try.func17 [.cell 8 28, .tmp 9] ?_)
  repeat' first | (with_reducible (show W _ _ _ _ _); with_reducible refine go2 ?_) | (with_reducible (show W _ _ _ _ _); with_reducible refine sg2 ?_ ?_ <;> intro _) | (with_reducible (show W _ _ _ _ _); with_reducible refine sc2 ?_ ?_ <;> intro _) | (with_reducible (show CallK _ _ _ _ _ _ _ _ _ _ _); with_reducible refine ce2 (check_zero _) ?_) | (with_reducible (show CallK _ _ _ _ _ _ _ _ _ _ _); with_reducible refine ce2 (rows_spec hv _ _ _ _) ?_) | (with_reducible (show W _ _ (.code (.region 3 _ true) :: _) _ _); with_reducible refine W_draw [(0, []), (1, []), (2, []), (4, []), (9, []), (3, [0, 9]), (5, [9]), (6, []), (7, []), (8, []), (10, []), (11, [])] [0, 9] (by kernel_rfl) ?_)
  all_goals trivial
theorem both_bad {n : Int} {p p' z z' : Nat} {D E : List Int} (h : MatOk n n D) (h' : MatOk n n E) {v : MV} {V : List Int} {N : Nat} (hN : D.length = N) (hN' : E.length = N) {H : MH} {rw rw' : Bool} (hp : hget H p = some ⟨D.map u64, rw⟩) (hp' : hget H p' = some ⟨E.map u64, rw'⟩)
    (hv : Sl H v V) (hl : 0 < V.length) (tau m : Int) (hrows : rowsB V.length n m = false) :
    Spec Try.prog 23 [mx n n n p N z, mx n n n p' N z', .agg [v, u64 tau], i64 m] H fun u H' => u = .tup [mx n n n p N z, mx n n n p' N z'] ∧ H' = H := by
  have hpl := lt_of_hget hp
  have hpl' := lt_of_hget hp'
  refine Spec.scalarP (by simp [Cl, Cls', hpl, hpl']) (fun π hπ => by simp [ren, rens, hπ p hpl, hπ p' hpl']) (enterS Try.func23 [.cell 8 28, .cell 9 28] ?_)
  repeat' first | (with_reducible (show W _ _ _ _ _); with_reducible refine go2 ?_) | (with_reducible (show W _ _ _ _ _); with_reducible refine sg2 ?_ ?_ <;> intro _) | (with_reducible (show W _ _ _ _ _); with_reducible refine sc2 ?_ ?_ <;> intro _) | (with_reducible (show W _ _ (.code (.region 6 _ true) :: _) _ _); with_reducible refine W_draw [(0, []), (1, []), (2, [1]), (3, [])] [1] (by kernel_rfl) ?_) | (with_reducible (show W _ _ (.code (.region 7 _ true) :: _) _ _); with_reducible refine W_draw [(0, []), (1, []), (2, [1]), (3, [])] [1] (by kernel_rfl) ?_) | ((with_reducible (show CallK _ _ _ _ _ _ _ _ _ _ _); first | (with_reducible refine cm2 (left_bad h hN _ (hv.app _) _ _ hrows) ?_) | (with_reducible refine cm2 (right_zero_bad _ (hv.app _) _ _ hl) ?_) | (with_reducible refine cm2 (right_bad h' hN' _ (hv.app _) _ _ hrows) ?_)))
  all_goals trivial
end Go.Proofs.Ytojppdcbnpinbaa.M
