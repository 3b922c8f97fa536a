/- The pair of shifts; a matrix of Hessenberg's form, of patterns. -/
import Derived.Test.YtamoljalficfgaaC13
import Derived.Test.YtamoljalficfgaaD1
set_option linter.unusedSimpArgs false
set_option linter.unusedVariables false
set_option maxRecDepth 10000
set_option maxHeartbeats 8000000
namespace Go.Proofs.Ytamoljalficfgaa.M
open Go Go.Proofs

def usualM (n : Int) (D : List Int) (h : Int) : Int × Int :=
  let a := atM n n n D (IntKind.i64.wrap (h - 2)) (IntKind.i64.wrap (h - 2))
  let b := atM n n n D (IntKind.i64.wrap (h - 2)) (IntKind.i64.wrap (h - 1))
  let x := atM n n n D (IntKind.i64.wrap (h - 1)) (IntKind.i64.wrap (h - 2))
  let d := atM n n n D (IntKind.i64.wrap (h - 1)) (IntKind.i64.wrap (h - 1))
  ((addM a d).1, (addM (mulM a d).1 (flipM (mulM b x).1)).1)
theorem usual_spec {n : Int} {p : Nat} {D : List Int} (hD : MatOk n n D) (hI : InD D) (h : Int) {H : MH} {rw : Bool} (hp : hget H p = some ⟨D.map u64, rw⟩) {N z : Nat} (hN : D.length = N) :
    Spec Try.prog 40 [mx n n n p N z, i64 h] H fun v H' => v = .agg [u64 (usualM n D h).1, u64 (usualM n D h).2] ∧ H' = H := by
  have hpl := lt_of_hget hp
  have hat := fun i k => atM_in hI n n n i k
  refine Spec.scalar (enterS Try.func40 [.cell 4 82] ?_)
  repeat' first | (with_reducible (show W _ _ _ _ _); with_reducible refine go2 ?_) | (with_reducible (show W _ _ _ _ _); with_reducible refine sg2 ?_ ?_ <;> intro _) | (with_reducible (show W _ _ _ _ _); with_reducible refine sc2 ?_ ?_ <;> intro _) | (with_reducible (show W _ _ (.code (.region 2 _ true) :: _) _ _); with_reducible refine W_draw [(0, []), (1, []), (2, []), (3, []), (4, []), (6, []), (7, []), (8, []), (9, []), (10, []), (5, [6]), (11, []), (12, []), (13, [])] [6] (by kernel_rfl) ?_) | (with_reducible (show W _ _ (.code (.region 3 _ true) :: _) _ _); with_reducible refine W_draw [(0, []), (1, []), (2, []), (3, []), (4, []), (6, []), (7, []), (8, []), (9, []), (10, []), (5, [6]), (11, []), (12, []), (13, [])] [6] (by kernel_rfl) ?_) | ((with_reducible (show CallK _ _ _ _ _ _ _ _ _ _ _); (first | (with_reducible refine cn2 (at_ok hD _ _ ((hget_old hpl).trans hp) hN) (hat _ _) ?_) | (with_reducible refine cn2 (abs_spec _ _) (abs_in _) ?_) | (with_reducible refine cn2 (cmul_spec _ _ _ hget_new) (mulM_in _ _) ?_) | (with_reducible refine cn2 (cadd_spec (by assumption) (by assumption) _ hget_new) (addM_in (by assumption) (by assumption)) ?_) | (with_reducible refine cn2 (csub_spec (by assumption) _ _ hget_new) (addM_in (by assumption) (flip_in _)) ?_)); intro r hr er))
  all_goals simp only [Is] at *
  all_goals simp_all [usualM]

def otherM (n : Int) (D : List Int) (h : Int) : Int × Int :=
  let s := (addM (absM (atM n n n D (IntKind.i64.wrap (h - 1)) (IntKind.i64.wrap (h - 2)))) (absM (atM n n n D (IntKind.i64.wrap (h - 2)) (IntKind.i64.wrap (h - 3))))).1
  let x := (addM (mulM 4604930618986332160 s).1 (atM n n n D (IntKind.i64.wrap (h - 1)) (IntKind.i64.wrap (h - 1)))).1
  ((addM x x).1, (addM (mulM x x).1 (flipM (mulM 13824924956120580096 (mulM s s).1).1)).1)
theorem other_spec {n : Int} {p : Nat} {D : List Int} (hD : MatOk n n D) (hI : InD D) (h : Int) {H : MH} {rw : Bool} (hp : hget H p = some ⟨D.map u64, rw⟩) {N z : Nat} (hN : D.length = N) :
    Spec Try.prog 41 [mx n n n p N z, i64 h] H fun v H' => v = .agg [u64 (otherM n D h).1, u64 (otherM n D h).2] ∧ H' = H := by
  have hpl := lt_of_hget hp
  have hat := fun i k => atM_in hI n n n i k
  refine Spec.scalar (enterS Try.func41 [.cell 4 82] ?_)
  repeat' first | (with_reducible (show W _ _ _ _ _); with_reducible refine go2 ?_) | (with_reducible (show W _ _ _ _ _); with_reducible refine sg2 ?_ ?_ <;> intro _) | (with_reducible (show W _ _ _ _ _); with_reducible refine sc2 ?_ ?_ <;> intro _) | (with_reducible (show W _ _ (.code (.region 2 _ true) :: _) _ _); with_reducible refine W_draw [(0, []), (1, []), (2, []), (3, []), (4, []), (7, []), (8, []), (9, []), (10, []), (11, []), (5, [7]), (6, [7]), (12, []), (13, []), (14, []), (15, [])] [7] (by kernel_rfl) ?_) | (with_reducible (show W _ _ (.code (.region 3 _ true) :: _) _ _); with_reducible refine W_draw [(0, []), (2, []), (3, []), (4, []), (5, []), (6, []), (1, [2]), (7, []), (8, []), (9, [])] [2] (by kernel_rfl) ?_) | ((with_reducible (show CallK _ _ _ _ _ _ _ _ _ _ _); (first | (with_reducible refine cn2 (at_ok hD _ _ ((hget_old hpl).trans hp) hN) (hat _ _) ?_) | (with_reducible refine cn2 (abs_spec _ _) (abs_in _) ?_) | (with_reducible refine cn2 (cmul_spec _ _ _ hget_new) (mulM_in _ _) ?_) | (with_reducible refine cn2 (cadd_spec (by assumption) (by assumption) _ hget_new) (addM_in (by assumption) (by assumption)) ?_) | (with_reducible refine cn2 (csub_spec (by assumption) _ _ hget_new) (addM_in (by assumption) (flip_in _)) ?_)); intro r hr er))
  all_goals simp only [Is] at *
  all_goals simp_all [otherM]

end Go.Proofs.Ytamoljalficfgaa.M
