/- The law EigWants, in the small machine. -/
import Derived.Test.YtaojabgaebbckaaGreatDoorC51
set_option linter.unusedSimpArgs false
set_option linter.unusedVariables false
set_option pp.deepTerms false
set_option pp.maxSteps 1500
set_option maxRecDepth 10000
set_option maxHeartbeats 8000000
namespace Go.Proofs.YtaojabgaebbckaaGreatDoor.M
open Go Go.Proofs

theorem hypot_fst {a b : Int} (ha : InU a) (hb : InU b) (H : MH) : Spec Tryz.prog 6 [u64 a, u64 b] H fun v H' => ∃ f : Int, True ∧ v = .tup [u64 (hypotM a b), u8 f] ∧ H' = H := hypot_spec ha hb H
def wantsM (k b x y : Int) : Bool := if k = 2 then lessM x b else if k = 3 then lessM (hypotM x y) b else false
theorem wants_spec {k b x y : Int} (hx : InU x) (hy : InU y) (H : MH) : Spec Tryz.prog 8 [.agg [i64 k, u64 b], .agg [u64 x, u64 y]] H fun v H' => v = bl (wantsM k b x y) ∧ H' = H := by
  refine Spec.scalar (enterS Tryz.func8 [.tmp 4] ?_)
  repeat' first | (with_reducible (show W _ _ _ _ _); with_reducible refine go2 ?_) | (with_reducible (show W _ _ _ _ _); with_reducible refine sg2 ?_ ?_ <;> intro _) | (with_reducible (show W _ _ _ _ _); with_reducible refine sc2 ?_ ?_ <;> intro _) | (with_reducible (show CallK _ _ _ _ _ _ _ _ _ _ _); with_reducible refine ce2 (less_spec _ _ _) ?_) | ((with_reducible (show CallK _ _ _ _ _ _ _ _ _ _ _); with_reducible refine cx2 (hypot_spec hx hy _) ?_; rintro u' H' ⟨f, _, rfl, rfl⟩))
  all_goals simp_all [wantsM]
theorem wants (hh : ∀ H, Spec Tryz.prog 5 [] H fun v H' => v = bl true ∧ H' = H) (k b x y : Int) (hx : InU x) (hy : InU y) (H : MH) : Spec Tryz.prog 3 [.agg [i64 k, u64 b], .agg [u64 x, u64 y]] H fun u H' => u = bl true ∧ H' = H := by
  refine Spec.scalar (enterS Tryz.func3 [.tmp 4] ?_)
  repeat' first | (with_reducible (show W _ _ _ _ _); with_reducible refine go2 ?_) | (with_reducible (show W _ _ _ _ _); with_reducible refine sg2 ?_ ?_ <;> intro _) | (with_reducible (show W _ _ _ _ _); with_reducible refine sc2 ?_ ?_ <;> intro _) | (with_reducible (show CallK _ _ _ _ _ _ _ _ _ _ _); with_reducible refine ce2 (hh _) ?_) | (with_reducible (show CallK _ _ _ _ _ _ _ _ _ _ _); with_reducible refine ce2 (less_spec _ _ _) ?_) | (with_reducible (show CallK _ _ _ _ _ _ _ _ _ _ _); with_reducible refine ce2 (wants_spec hx hy _) ?_) | ((with_reducible (show CallK _ _ _ _ _ _ _ _ _ _ _); with_reducible refine cx2 (hypot_spec hx hy _) ?_; rintro u' H' ⟨f, _, rfl, rfl⟩))
  all_goals first
    | trivial
    | simp_all [wantsM]
end Go.Proofs.YtaojabgaebbckaaGreatDoor.M
