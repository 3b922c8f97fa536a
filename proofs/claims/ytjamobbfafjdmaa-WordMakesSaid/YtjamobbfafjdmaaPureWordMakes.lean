/- The law WordMakes of layer 1: for every sign, exponent and fraction the pattern made has their lowest bits; no condition beyond the arguments' own ranges. -/
import Derived.Test.YtjamobbfafjdmaaPWordMakesx1
import Derived.Test.YtjamobbfafjdmaaU
set_option linter.unusedSimpArgs false
set_option linter.unusedVariables false
namespace Go.Proofs.Ytjamobbfafjdmaa.Pure
open Go.RowKit Go.Proofs.Ytjamobbfafjdmaa Go.Proofs.Ytjamobbfafjdmaa.PWordMakes Go.Proofs.YtjamobbfafjdmaaW.PrintWords Go.Proofs.YtjamobbfafjdmaaW.PrintLast
def kindOf (a : Int) : Int :=
  if a / 4503599627370496 % 2048 = 0 then (if a % 4503599627370496 = 0 then 1 else 2)
  else if a / 4503599627370496 % 2048 < 2047 then 3 else if a % 4503599627370496 = 0 then 4 else 5
theorem neg_eq (a : Int) (h : 0 ≤ a) (h' : a < 18446744073709551616) : word_Neg.f a = some (decide (9223372036854775808 ≤ a)) := by
  unfold word_Neg.f
  congr 1
  by_cases h1 : 9223372036854775808 ≤ a
  · have : a / 9223372036854775808 = 1 := by omega
    simp [h1, this]
  · have : a / 9223372036854775808 = 0 := by omega
    simp [h1, this]
theorem exp_eq (a : Int) (h : 0 ≤ a) (h' : a < 18446744073709551616) : word_Exp.f a = some (a / 4503599627370496 % 2048) := by
  unfold word_Exp.f
  rw [U.and_2047 (by omega) (by omega), U.wrap64_id (by omega) (by omega)]
theorem frac_eq (a : Int) (h : 0 ≤ a) (h' : a < 18446744073709551616) : word_Frac.f a = some (a % 4503599627370496) := by
  unfold word_Frac.f
  rw [U.and_52 h h']
theorem kind_eq (k : Nat) (a : Int) (h : 0 ≤ a) (h' : a < 18446744073709551616) : word_Kind.f (k + 1) a = some (kindOf a) := by
  unfold word_Kind.f
  rw [exp_eq a h h', frac_eq a h h']
  simp only [Option.bind_some, word_Kind.j0, kindOf]
  by_cases h1 : a / 4503599627370496 % 2048 = 0
  · by_cases h2 : a % 4503599627370496 = 0 <;> simp [h1, h2]
  · simp [h1]
    repeat (any_goals split)
    all_goals simp
def nextOf (a : Int) : Int :=
  if kindOf a = 5 ∨ a = 9218868437227405312 then a else if a = 9223372036854775808 then 1 else if 9223372036854775808 ≤ a then a - 1 else a + 1
theorem next_eq (k : Nat) (a : Int) (h : 0 ≤ a) (h' : a < 18446744073709551616) : word_Next.f (k + 1) a = some (nextOf a) := by
  unfold word_Next.f nextOf
  rw [kind_eq k a h h']
  simp only [Option.bind_some, word_Next.j0]
  rw [neg_eq a h h']
  simp only [Option.bind_some]
  by_cases h1 : kindOf a = 5
  · simp [h1]
  · by_cases h2 : a = 9218868437227405312
    · simp [h1, h2]
    · by_cases h3 : a = 9223372036854775808
      · rw [if_neg h1, if_neg (by simp [h1, h2]), if_pos h3]
        rw [if_neg (by simp [h1, h2]), if_pos h3]
      · by_cases h4 : 9223372036854775808 ≤ a
        · have e : IntKind.u64.wrap (a - 1) = a - 1 := U.wrap_u64_id (by omega) (by omega)
          simp [h1, h2, h3, h4, e]
        · have e : IntKind.u64.wrap (a + 1) = a + 1 := U.wrap_u64_id (by omega) (by omega)
          simp [h1, h2, h3, h4, e]
theorem parts_eq (k : Nat) (a : Int) (h : 0 ≤ a) (h' : a < 18446744073709551616) :
    word_Parts.f (k + 1) a = some (if kindOf a = 2 then (a % 4503599627370496, -1074) else if kindOf a = 3 then (a % 4503599627370496 + 4503599627370496, a / 4503599627370496 % 2048 - 1075) else (0, 0)) := by
  unfold word_Parts.f
  rw [kind_eq k a h h', exp_eq a h h', frac_eq a h h']
  simp only [Option.bind_some]
  rw [U.or_52 (by omega) (by omega), U.wrap64_id (by omega) (by omega)]
  by_cases h2 : kindOf a = 2
  · rw [if_pos h2, if_pos h2]
  · rw [if_neg h2, if_neg h2]
    by_cases h3 : kindOf a = 3
    · rw [if_pos h3, if_pos h3]
    · rw [if_neg h3, if_neg h3]
theorem head_eq (k : Nat) : gimballaw01_head.f (k + 1) = some true := by
  unfold gimballaw01_head.f
  rw [parts_eq k _ (by decide) (by decide), next_eq k _ (by decide) (by decide)]
  simp [kindOf, nextOf]
theorem make_eq (s : Bool) (e f : Int) (h : -9223372036854775808 ≤ e) (h' : e < 9223372036854775808) (g : 0 ≤ f) (g' : f < 18446744073709551616) :
    word_Make.f s e f = some ((if s = true then 9223372036854775808 else 0) + e % 2048 * 4503599627370496 + f % 4503599627370496) := by
  unfold word_Make.f
  have e0 : bits .and .u64 (IntKind.u64.wrap e) 2047 = e % 2048 := by
    rw [U.wrap_u64, U.and_2047 (by omega) (by omega)]; omega
  have e1 : IntKind.u64.wrap (bits .and .u64 (IntKind.u64.wrap e) 2047 * 4503599627370496) = e % 2048 * 4503599627370496 := by
    rw [e0]; exact U.wrap_u64_id (by omega) (by omega)
  have e2 : bits .or .u64 (IntKind.u64.wrap (bits .and .u64 (IntKind.u64.wrap e) 2047 * 4503599627370496)) (bits .and .u64 f 4503599627370495) = e % 2048 * 4503599627370496 + f % 4503599627370496 := by
    rw [e1, U.and_52 g g']
    exact U.or_join 52 (by decide) (by omega) (by omega) (by omega) (by omega) (by omega)
  rw [e2]
  cases s
  · simp
  · simp only [if_true]
    rw [U.or_63 (by omega) (by omega)]
    congr 1; omega
theorem split_eq (a : Int) (h : 0 ≤ a) (h' : a < 18446744073709551616) : gimballaw01_split.f a = some (a / 9223372036854775808, a / 4503599627370496 % 2048, a % 4503599627370496) := by
  unfold gimballaw01_split.f
  rw [U.tdiv_nn h, U.tdiv_nn h, U.tmod_nn h, U.wrap_u64_id (by omega) (by omega), U.wrap_u64_id (by omega) (by omega), U.tmod_nn (by omega)]
theorem and_2047_i64 {a : Int} (h : -9223372036854775808 ≤ a) (h' : a < 9223372036854775808) : bits .and .i64 a 2047 = a % 2048 := by
  show IntKind.i64.wrap ((BitVec.ofInt 64 a &&& BitVec.ofInt 64 2047).toNat : Int) = _
  have e : (BitVec.ofInt 64 (2047 : Int)).toNat = 2 ^ 11 - 1 := by decide
  have e2 : ((BitVec.ofInt 64 a).toNat : Int) = a % 18446744073709551616 := by
    rw [BitVec.toNat_ofInt]
    exact Int.toNat_of_nonneg (by omega)
  rw [BitVec.toNat_and, e, Nat.and_two_pow_sub_one_eq_mod, IntKind.wrap_i64]
  omega
theorem WordMakes : gimballaw01_WordMakes.Pure := by
  intro s e f we wf
  obtain ⟨h, h'⟩ := U.wf_i64 we
  obtain ⟨g, g'⟩ := U.wf_u64 wf
  refine ⟨1, ?_⟩
  unfold gimballaw01_WordMakes.f
  rw [head_eq, make_eq s e f h h' g g']
  simp only [Option.bind_some, if_true]
  rw [split_eq _ (by split <;> omega) (by split <;> omega)]
  simp only [Option.bind_some]
  rw [U.wrap64_id (by omega) (by omega), U.tmod_nn g, and_2047_i64 h h']
  cases s
  · have a1 : ((if false = true then (9223372036854775808 : Int) else 0) + e % 2048 * 4503599627370496 + f % 4503599627370496) / 9223372036854775808 = 0 := by simp; omega
    have a2 : ((if false = true then (9223372036854775808 : Int) else 0) + e % 2048 * 4503599627370496 + f % 4503599627370496) / 4503599627370496 % 2048 = e % 2048 := by simp; omega
    have a3 : ((if false = true then (9223372036854775808 : Int) else 0) + e % 2048 * 4503599627370496 + f % 4503599627370496) % 4503599627370496 = f % 4503599627370496 := by simp
    rw [a1, a2, a3]; simp
  · have a1 : ((if true = true then (9223372036854775808 : Int) else 0) + e % 2048 * 4503599627370496 + f % 4503599627370496) / 9223372036854775808 = 1 := by simp; omega
    have a2 : ((if true = true then (9223372036854775808 : Int) else 0) + e % 2048 * 4503599627370496 + f % 4503599627370496) / 4503599627370496 % 2048 = e % 2048 := by simp; omega
    have a3 : ((if true = true then (9223372036854775808 : Int) else 0) + e % 2048 * 4503599627370496 + f % 4503599627370496) % 4503599627370496 = f % 4503599627370496 := by simp; omega
    rw [a1, a2, a3]; simp
end Go.Proofs.Ytjamobbfafjdmaa.Pure
