/- What the functions of word answer. -/
import Derived.Test.YtamoljalficfgaaMT
set_option linter.unusedSimpArgs false
set_option linter.unusedVariables false
set_option maxRecDepth 10000
set_option maxHeartbeats 4000000


namespace Go.Proofs.Ytamoljalficfgaa.M
open Go Go.Proofs

abbrev u64 (n : Int) : MV := .lit (.int .u64 n)
abbrev i64 (n : Int) : MV := .lit (.int .i64 n)
abbrev u8 (n : Int) : MV := .lit (.int .u8 n)
abbrev bl (b : Bool) : MV := .lit (.bool b)

def negM (b : Int) : Bool := decide (shrV .u64 b 63 = 1)
theorem neg_spec (b : Int) (H : MH) : Spec Try.prog 29 [u64 b] H fun v H' => v = bl (negM b) ∧ H' = H := by
  refine Spec.scalar (enterS Try.func29 [.tmp 2] ?_)
  repeat' first | (with_reducible (show W _ _ _ _ _); with_reducible refine go ?_) | (with_reducible (show W _ _ _ _ _); with_reducible refine sg ?_ ?_ <;> intro _) | (with_reducible (show W _ _ _ _ _); with_reducible refine sc ?_ ?_ <;> intro _)
  simp [negM]
def expM (b : Int) : Int := IntKind.i64.wrap (bits .and .u64 (shrV .u64 b 52) 2047)
theorem exp_spec (b : Int) (H : MH) : Spec Try.prog 47 [u64 b] H fun v H' => v = i64 (expM b) ∧ H' = H := by
  refine Spec.scalar (enterS Try.func47 [.tmp 2] ?_)
  repeat' first | (with_reducible (show W _ _ _ _ _); with_reducible refine go ?_) | (with_reducible (show W _ _ _ _ _); with_reducible refine sg ?_ ?_ <;> intro _) | (with_reducible (show W _ _ _ _ _); with_reducible refine sc ?_ ?_ <;> intro _)

  simp [expM]
def fracM (b : Int) : Int := bits .and .u64 b 4503599627370495
theorem frac_spec (b : Int) (H : MH) : Spec Try.prog 48 [u64 b] H fun v H' => v = u64 (fracM b) ∧ H' = H := by
  refine Spec.scalar (enterS Try.func48 [.tmp 2] ?_)
  repeat' first | (with_reducible (show W _ _ _ _ _); with_reducible refine go ?_) | (with_reducible (show W _ _ _ _ _); with_reducible refine sg ?_ ?_ <;> intro _) | (with_reducible (show W _ _ _ _ _); with_reducible refine sc ?_ ?_ <;> intro _)
  simp [fracM]
def kindM (b : Int) : Int := if expM b = 0 then (if fracM b = 0 then 1 else 2) else if expM b < 2047 then 3 else if fracM b = 0 then 4 else 5
theorem kind_spec (b : Int) (H : MH) : Spec Try.prog 27 [u64 b] H fun v H' => v = i64 (kindM b) ∧ H' = H := by
  refine Spec.scalar (enterS Try.func27 [.tmp 2] ?_)
  repeat' first | (with_reducible (show W _ _ _ _ _); with_reducible refine go ?_) | (with_reducible (show W _ _ _ _ _); with_reducible refine sg ?_ ?_ <;> intro _) | (with_reducible (show W _ _ _ _ _); with_reducible refine sc ?_ ?_ <;> intro _) | (with_reducible (show CallK _ _ _ _ _ _ _ _ _ _ _); with_reducible refine ce (exp_spec _ _) ?_) | (with_reducible (show CallK _ _ _ _ _ _ _ _ _ _ _); with_reducible refine ce (frac_spec _ _) ?_)

  all_goals simp_all [kindM]

def absM (b : Int) : Int := bits .andNot .u64 b 9223372036854775808
theorem abs_spec (b : Int) (H : MH) : Spec Try.prog 12 [u64 b] H fun v H' => v = u64 (absM b) ∧ H' = H := by
  refine Spec.scalar (enterS Try.func12 [.tmp 2] ?_)
  repeat' first | (with_reducible (show W _ _ _ _ _); with_reducible refine go ?_) | (with_reducible (show W _ _ _ _ _); with_reducible refine sg ?_ ?_ <;> intro _) | (with_reducible (show W _ _ _ _ _); with_reducible refine sc ?_ ?_ <;> intro _)
  simp [absM]
def flipM (b : Int) : Int := bits .xor .u64 b 9223372036854775808
theorem flip_spec (b : Int) (H : MH) : Spec Try.prog 26 [u64 b] H fun v H' => v = u64 (flipM b) ∧ H' = H := by
  refine Spec.scalar (enterS Try.func26 [.tmp 2] ?_)
  repeat' first | (with_reducible (show W _ _ _ _ _); with_reducible refine go ?_) | (with_reducible (show W _ _ _ _ _); with_reducible refine sg ?_ ?_ <;> intro _) | (with_reducible (show W _ _ _ _ _); with_reducible refine sc ?_ ?_ <;> intro _)
  simp [flipM]
def signM (b c : Int) : Int := bits .or .u64 (absM b) (bits .and .u64 c 9223372036854775808)
theorem sign_spec (b c : Int) (H : MH) : Spec Try.prog 28 [u64 b, u64 c] H fun v H' => v = u64 (signM b c) ∧ H' = H := by
  refine Spec.scalar (enterS Try.func28 [.tmp 4] ?_)
  repeat' first | (with_reducible (show W _ _ _ _ _); with_reducible refine go ?_) | (with_reducible (show W _ _ _ _ _); with_reducible refine sg ?_ ?_ <;> intro _) | (with_reducible (show W _ _ _ _ _); with_reducible refine sc ?_ ?_ <;> intro _) | (with_reducible (show CallK _ _ _ _ _ _ _ _ _ _ _); with_reducible refine ce (abs_spec _ _) ?_)
  simp [signM]
def finiteM (b : Int) : Bool := decide (expM b < 2047)
theorem finite_spec (b : Int) (H : MH) : Spec Try.prog 43 [u64 b] H fun v H' => v = bl (finiteM b) ∧ H' = H := by
  refine Spec.scalar (enterS Try.func43 [.tmp 2] ?_)
  repeat' first | (with_reducible (show W _ _ _ _ _); with_reducible refine go ?_) | (with_reducible (show W _ _ _ _ _); with_reducible refine sg ?_ ?_ <;> intro _) | (with_reducible (show W _ _ _ _ _); with_reducible refine sc ?_ ?_ <;> intro _) | (with_reducible (show CallK _ _ _ _ _ _ _ _ _ _ _); with_reducible refine ce (exp_spec _ _) ?_)
  simp [finiteM]
def signalsM (b : Int) : Bool := decide (kindM b = 5) && decide (bits .and .u64 (shrV .u64 b 51) 1 = 0)
theorem signals_spec (b : Int) (H : MH) : Spec Try.prog 50 [u64 b] H fun v H' => v = bl (signalsM b) ∧ H' = H := by
  refine Spec.scalar (enterS Try.func50 [.tmp 2] ?_)
  repeat' first | (with_reducible (show W _ _ _ _ _); with_reducible refine go ?_) | (with_reducible (show W _ _ _ _ _); with_reducible refine sg ?_ ?_ <;> intro _) | (with_reducible (show W _ _ _ _ _); with_reducible refine sc ?_ ?_ <;> intro _) | (with_reducible (show CallK _ _ _ _ _ _ _ _ _ _ _); with_reducible refine ce (kind_spec _ _) ?_)
  all_goals simp_all [signalsM]
def partsM (b : Int) : Int × Int := if kindM b = 2 then (fracM b, -1074) else if kindM b = 3 then (bits .or .u64 (fracM b) 4503599627370496, IntKind.i64.wrap (expM b - 1075)) else (0, 0)
theorem parts_spec (b : Int) (H : MH) : Spec Try.prog 44 [u64 b] H fun v H' => v = .tup [u64 (partsM b).1, i64 (partsM b).2] ∧ H' = H := by
  refine Spec.scalar (enterS Try.func44 [.tmp 2, .tmp 3] ?_)
  repeat' first | (with_reducible (show W _ _ _ _ _); with_reducible refine go ?_) | (with_reducible (show W _ _ _ _ _); with_reducible refine sg ?_ ?_ <;> intro _) | (with_reducible (show W _ _ _ _ _); with_reducible refine sc ?_ ?_ <;> intro _) | (with_reducible (show CallK _ _ _ _ _ _ _ _ _ _ _); with_reducible refine ce (kind_spec _ _) ?_) | (with_reducible (show CallK _ _ _ _ _ _ _ _ _ _ _); with_reducible refine ce (frac_spec _ _) ?_) | (with_reducible (show CallK _ _ _ _ _ _ _ _ _ _ _); with_reducible refine ce (exp_spec _ _) ?_)
  all_goals simp_all [partsM]
def makeM (neg : Bool) (e f : Int) : Int :=
  let b := bits .or .u64 (shlV .u64 (bits .and .u64 (IntKind.u64.wrap e) 2047) 52) (bits .and .u64 f 4503599627370495)
  if neg then bits .or .u64 b 9223372036854775808 else b
theorem make_spec (neg : Bool) (e f : Int) (H : MH) : Spec Try.prog 73 [bl neg, i64 e, u64 f] H fun v H' => v = u64 (makeM neg e f) ∧ H' = H := by
  refine Spec.scalar (enterS Try.func73 [.tmp 6] ?_)
  repeat' first | (with_reducible (show W _ _ _ _ _); with_reducible refine go ?_) | (with_reducible (show W _ _ _ _ _); with_reducible refine sg ?_ ?_ <;> intro _) | (with_reducible (show W _ _ _ _ _); with_reducible refine sc ?_ ?_ <;> intro _)
  all_goals simp_all [makeM]
end Go.Proofs.Ytamoljalficfgaa.M
