/- The law WordSigns of layer 1: for every two 64-bit patterns the signs are turned, taken and given as the law says; no condition beyond the words' own range. -/
import Derived.Test.YtjamobbfafjdmaaQWordSignsx1
import Derived.Test.YtjamobbfafjdmaaU
set_option linter.unusedSimpArgs false
set_option linter.unusedVariables false
set_option exponentiation.threshold 5000
namespace Go.Proofs.Ytjamobbfafjdmaa.Pure
open Go.RowKit Go.Proofs.Ytjamobbfafjdmaa Go.Proofs.Ytjamobbfafjdmaa.QWordSigns Go.Proofs.YtjamobbfafjdmaaW.PrintWords Go.Proofs.YtjamobbfafjdmaaW.PrintLast
def kindOf (a : Int) : Int :=
  if a / 4503599627370496 % 2048 = 0 then (if a % 4503599627370496 = 0 then 1 else 2)
  else if a / 4503599627370496 % 2048 < 2047 then 3 else if a % 4503599627370496 = 0 then 4 else 5
theorem neg_eq (a : Int) (h : 0 ≤ a) (h' : a < 18446744073709551616) : word_Neg.f a = some (decide (9223372036854775808 ≤ a)) := by
  unfold word_Neg.f
  congr 1
  by_cases h1 : 9223372036854775808 ≤ a
  · have : a / 9223372036854775808 = 1 := by omega
    simp [h1, this]
  · have : a / 9223372036854775808 = 0 := by omega
    simp [h1, this]
theorem exp_eq (a : Int) (h : 0 ≤ a) (h' : a < 18446744073709551616) : word_Exp.f a = some (a / 4503599627370496 % 2048) := by
  unfold word_Exp.f
  rw [U.and_2047 (by omega) (by omega), U.wrap64_id (by omega) (by omega)]
theorem frac_eq (a : Int) (h : 0 ≤ a) (h' : a < 18446744073709551616) : word_Frac.f a = some (a % 4503599627370496) := by
  unfold word_Frac.f
  rw [U.and_52 h h']
theorem kind_eq (k : Nat) (a : Int) (h : 0 ≤ a) (h' : a < 18446744073709551616) : word_Kind.f (k + 1) a = some (kindOf a) := by
  unfold word_Kind.f
  rw [exp_eq a h h', frac_eq a h h']
  simp only [Option.bind_some, word_Kind.j0, kindOf]
  by_cases h1 : a / 4503599627370496 % 2048 = 0
  · by_cases h2 : a % 4503599627370496 = 0 <;> simp [h1, h2]
  · simp [h1]
    repeat (any_goals split)
    all_goals simp
def nextOf (a : Int) : Int :=
  if kindOf a = 5 ∨ a = 9218868437227405312 then a else if a = 9223372036854775808 then 1 else if 9223372036854775808 ≤ a then a - 1 else a + 1
theorem next_eq (k : Nat) (a : Int) (h : 0 ≤ a) (h' : a < 18446744073709551616) : word_Next.f (k + 1) a = some (nextOf a) := by
  unfold word_Next.f nextOf
  rw [kind_eq k a h h']
  simp only [Option.bind_some, word_Next.j0]
  rw [neg_eq a h h']
  simp only [Option.bind_some]
  by_cases h1 : kindOf a = 5
  · simp [h1]
  · by_cases h2 : a = 9218868437227405312
    · simp [h1, h2]
    · by_cases h3 : a = 9223372036854775808
      · rw [if_neg h1, if_neg (by simp [h1, h2]), if_pos h3]
        rw [if_neg (by simp [h1, h2]), if_pos h3]
      · by_cases h4 : 9223372036854775808 ≤ a
        · have e : IntKind.u64.wrap (a - 1) = a - 1 := U.wrap_u64_id (by omega) (by omega)
          simp [h1, h2, h3, h4, e]
        · have e : IntKind.u64.wrap (a + 1) = a + 1 := U.wrap_u64_id (by omega) (by omega)
          simp [h1, h2, h3, h4, e]
theorem parts_eq (k : Nat) (a : Int) (h : 0 ≤ a) (h' : a < 18446744073709551616) :
    word_Parts.f (k + 1) a = some (if kindOf a = 2 then (a % 4503599627370496, -1074) else if kindOf a = 3 then (a % 4503599627370496 + 4503599627370496, a / 4503599627370496 % 2048 - 1075) else (0, 0)) := by
  unfold word_Parts.f
  rw [kind_eq k a h h', exp_eq a h h', frac_eq a h h']
  simp only [Option.bind_some]
  rw [U.or_52 (by omega) (by omega), U.wrap64_id (by omega) (by omega)]
  by_cases h2 : kindOf a = 2
  · rw [if_pos h2, if_pos h2]
  · rw [if_neg h2, if_neg h2]
    by_cases h3 : kindOf a = 3
    · rw [if_pos h3, if_pos h3]
    · rw [if_neg h3, if_neg h3]
theorem head_eq (k : Nat) : gimballaw01_head.f (k + 1) = some true := by
  unfold gimballaw01_head.f
  rw [parts_eq k _ (by decide) (by decide), next_eq k _ (by decide) (by decide)]
  simp [kindOf, nextOf]
def flipOf (a : Int) : Int := if a < 9223372036854775808 then a + 9223372036854775808 else a - 9223372036854775808
theorem flip_eq (a : Int) (h : 0 ≤ a) (h' : a < 18446744073709551616) : word_Flip.f a = some (flipOf a) := by
  unfold word_Flip.f flipOf
  rw [U.xor_63 h h']
theorem flip_bd (a : Int) (h : 0 ≤ a) (h' : a < 18446744073709551616) : 0 ≤ flipOf a ∧ flipOf a < 18446744073709551616 := by
  unfold flipOf; split <;> omega
theorem abs_eq (a : Int) (h : 0 ≤ a) (h' : a < 18446744073709551616) : word_Abs.f a = some (a % 9223372036854775808) := by
  unfold word_Abs.f
  rw [U.andNot_63 h h']
theorem sign_eq (a b : Int) (h : 0 ≤ a) (h' : a < 18446744073709551616) (g : 0 ≤ b) (g' : b < 18446744073709551616) :
    word_Sign.f a b = some (a % 9223372036854775808 + b / 9223372036854775808 * 9223372036854775808) := by
  unfold word_Sign.f
  rw [abs_eq a h h']
  simp only [Option.bind_some]
  rw [U.and_63 g g']
  by_cases h1 : b < 9223372036854775808
  · have e : b / 9223372036854775808 * 9223372036854775808 = 0 := by omega
    rw [e, U.or_join 0 (by decide) (by omega) (by omega) (by omega) (by omega) (by decide)]
  · have e : b / 9223372036854775808 * 9223372036854775808 = 9223372036854775808 := by omega
    rw [e, U.or_63 (by omega) (by omega)]
theorem split_eq (a : Int) (h : 0 ≤ a) (h' : a < 18446744073709551616) : gimballaw01_split.f a = some (a / 9223372036854775808, a / 4503599627370496 % 2048, a % 4503599627370496) := by
  unfold gimballaw01_split.f
  rw [U.tdiv_nn h, U.tdiv_nn h, U.tmod_nn h, U.wrap_u64_id (by omega) (by omega), U.wrap_u64_id (by omega) (by omega), U.tmod_nn (by omega)]
theorem WordSigns : gimballaw01_WordSigns.Pure := by
  intro a b wa wb
  obtain ⟨h, h'⟩ := U.wf_u64 wa
  obtain ⟨g, g'⟩ := U.wf_u64 wb
  refine ⟨2, ?_⟩
  have hf := flip_bd a h h'
  unfold gimballaw01_WordSigns.f
  rw [head_eq, split_eq a h h', split_eq b g g']
  simp only [Option.bind_some, if_true]
  have e1 : IntKind.u64.wrap (a / 4503599627370496 % 2048 * 4503599627370496) = a / 4503599627370496 % 2048 * 4503599627370496 := U.wrap_u64_id (by omega) (by omega)
  have e2 : IntKind.u64.wrap (a / 4503599627370496 % 2048 * 4503599627370496 + a % 4503599627370496) = a % 9223372036854775808 := by rw [U.wrap_u64_id (by omega) (by omega)]; omega
  have e3 : IntKind.u64.wrap (a % 9223372036854775808 + 9223372036854775808) = a % 9223372036854775808 + 9223372036854775808 := U.wrap_u64_id (by omega) (by omega)
  rw [e1, e2, e3]
  simp only [gimballaw01_WordSigns.j0]
  rw [abs_eq a h h', sign_eq a b h h' g g', flip_eq a h h', neg_eq a h h']
  simp only [Option.bind_some]
  rw [flip_eq _ hf.1 hf.2, abs_eq _ hf.1 hf.2, neg_eq _ hf.1 hf.2]
  simp only [Option.bind_some]
  have f1 : flipOf (flipOf a) = a := by unfold flipOf; repeat (any_goals split)
                                        all_goals omega
  have f2 : flipOf a % 9223372036854775808 = a % 9223372036854775808 := by unfold flipOf; split <;> omega
  have f3 : (decide (9223372036854775808 ≤ flipOf a) != decide (9223372036854775808 ≤ a)) = true := by
    unfold flipOf; split <;> simp <;> omega
  rw [f1, f2, f3]
  by_cases hb : b / 9223372036854775808 = 1
  · simp [hb]
  · have : b / 9223372036854775808 = 0 := by omega
    simp [this]
end Go.Proofs.Ytjamobbfafjdmaa.Pure
