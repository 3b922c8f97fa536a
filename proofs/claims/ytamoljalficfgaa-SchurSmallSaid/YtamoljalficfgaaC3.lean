/- What the functions of wide that go over several, and of round, answer. -/
import Derived.Test.YtamoljalficfgaaC2
set_option linter.unusedSimpArgs false
set_option linter.unusedVariables false
set_option maxRecDepth 10000
set_option maxHeartbeats 2000000
namespace Go.Proofs.Ytamoljalficfgaa.M
open Go Go.Proofs

def wlenM (a : W2) : Int := if a.1 = 0 then lenM a.2 else IntKind.i64.wrap (64 + lenM a.1)
theorem wlen_spec {a : W2} (ha : InW a) (H : MH) : Spec Try.prog 74 [wd a] H fun v H' => v = i64 (wlenM a) ∧ H' = H := by
  have h1 := ha.1
  have h2 := ha.2
  refine Spec.scalar (enterS Try.func74 [.tmp 2] ?_)
  repeat' first | (with_reducible (show W _ _ _ _ _); with_reducible refine go ?_) | (with_reducible (show W _ _ _ _ _); with_reducible refine sg ?_ ?_ <;> intro _) | (with_reducible (show W _ _ _ _ _); with_reducible refine sc ?_ ?_ <;> intro _) | (with_reducible (show CallK _ _ _ _ _ _ _ _ _ _ _); with_reducible refine ce (len_spec (by assumption) _) ?_)
  all_goals simp [wlenM, *]

def mul64M (x y : Int) : Int × Int :=
  let x0 := bits .and .u64 x 4294967295
  let x1 := shrV .u64 x 32
  let y0 := bits .and .u64 y 4294967295
  let y1 := shrV .u64 y 32
  let w0 := IntKind.u64.wrap (x0 * y0)
  let t := IntKind.u64.wrap (IntKind.u64.wrap (x1 * y0) + shrV .u64 w0 32)
  let w1 := bits .and .u64 t 4294967295
  let w2 := shrV .u64 t 32
  let w1 := IntKind.u64.wrap (w1 + IntKind.u64.wrap (x0 * y1))
  (IntKind.u64.wrap (IntKind.u64.wrap (IntKind.u64.wrap (x1 * y1) + w2) + shrV .u64 w1 32), IntKind.u64.wrap (x * y))
theorem mul64_spec (x y : Int) (H : MH) : Spec Try.prog 90 [u64 x, u64 y] H fun v H' => v = .tup [u64 (mul64M x y).1, u64 (mul64M x y).2] ∧ H' = H := by
  refine Spec.scalar (enterS Try.func90 [.tmp 4, .tmp 5] ?_)
  repeat' first | (with_reducible (show W _ _ _ _ _); with_reducible refine go ?_) | (with_reducible (show W _ _ _ _ _); with_reducible refine sg ?_ ?_ <;> intro _) | (with_reducible (show W _ _ _ _ _); with_reducible refine sc ?_ ?_ <;> intro _)
  all_goals simp [mul64M, *]
theorem mul64_in (x y : Int) : InW (mul64M x y) := ⟨wrap_inU _, wrap_inU _⟩
theorem wmul_spec (x y : Int) (H : MH) : Spec Try.prog 70 [u64 x, u64 y] H fun v H' => v = wd (mul64M x y) ∧ H' = H := by
  refine Spec.scalar (enterS Try.func70 [.cell 4 94] ?_)
  repeat' first | (with_reducible (show W _ _ _ _ _); with_reducible refine go ?_) | (with_reducible (show W _ _ _ _ _); with_reducible refine sg ?_ ?_ <;> intro _) | (with_reducible (show W _ _ _ _ _); with_reducible refine sc ?_ ?_ <;> intro _) | (with_reducible (show CallK _ _ _ _ _ _ _ _ _ _ _); with_reducible refine ce (mul64_spec _ _ _) ?_)
  all_goals simp [*]

def splitM (w : W2) (drop : Int) (fell : Bool) : Bool × Bool := if 128 < drop then (false, fell) else
  let u := wrightM w (IntKind.i64.wrap (drop - 1))
  (decide (bits .and .u64 u.1.2 1 = 1), u.2)
theorem split_spec (w : W2) (drop : Int) (fell : Bool) (H : MH) : Spec Try.prog 76 [wd w, i64 drop, bl fell] H fun v H' => v = .tup [bl (splitM w drop fell).1, bl (splitM w drop fell).2] ∧ H' = H := by
  refine Spec.scalar (enterS Try.func76 [.tmp 6, .tmp 7] ?_)
  repeat' first | (with_reducible (show W _ _ _ _ _); with_reducible refine go ?_) | (with_reducible (show W _ _ _ _ _); with_reducible refine sg ?_ ?_ <;> intro _) | (with_reducible (show W _ _ _ _ _); with_reducible refine sc ?_ ?_ <;> intro _) | (with_reducible (show CallK _ _ _ _ _ _ _ _ _ _ _); with_reducible refine ce (wright_spec _ _ _) ?_)

  all_goals simp [splitM, *]
end Go.Proofs.Ytamoljalficfgaa.M
