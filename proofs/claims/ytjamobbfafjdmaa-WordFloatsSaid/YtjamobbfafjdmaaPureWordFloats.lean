/- The law WordFloats of layer 1: a pattern as Go's own number, and back, is the pattern; what is no number is unlike itself; no condition beyond the argument's own range. -/
import Derived.Test.YtjamobbfafjdmaaQWordFloatsx1
import Derived.Test.YtjamobbfafjdmaaU
import Derived.Test.YtjamobbfafjdmaaUX
set_option linter.unusedSimpArgs false
set_option linter.unusedVariables false
set_option exponentiation.threshold 5000
namespace Go.Proofs.Ytjamobbfafjdmaa.Pure
open Go.RowKit Go.Proofs.Ytjamobbfafjdmaa Go.Proofs.Ytjamobbfafjdmaa.QWordFloats Go.Proofs.YtjamobbfafjdmaaW.PrintWords Go.Proofs.YtjamobbfafjdmaaW.PrintLast
def kindOf (a : Int) : Int :=
  if a / 4503599627370496 % 2048 = 0 then (if a % 4503599627370496 = 0 then 1 else 2)
  else if a / 4503599627370496 % 2048 < 2047 then 3 else if a % 4503599627370496 = 0 then 4 else 5
theorem neg_eq (a : Int) (h : 0 ≤ a) (h' : a < 18446744073709551616) : word_Neg.f a = some (decide (9223372036854775808 ≤ a)) := by
  unfold word_Neg.f
  congr 1
  by_cases h1 : 9223372036854775808 ≤ a
  · have : a / 9223372036854775808 = 1 := by omega
    simp [h1, this]
  · have : a / 9223372036854775808 = 0 := by omega
    simp [h1, this]
theorem exp_eq (a : Int) (h : 0 ≤ a) (h' : a < 18446744073709551616) : word_Exp.f a = some (a / 4503599627370496 % 2048) := by
  unfold word_Exp.f
  rw [U.and_2047 (by omega) (by omega), U.wrap64_id (by omega) (by omega)]
theorem frac_eq (a : Int) (h : 0 ≤ a) (h' : a < 18446744073709551616) : word_Frac.f a = some (a % 4503599627370496) := by
  unfold word_Frac.f
  rw [U.and_52 h h']
theorem kind_eq (k : Nat) (a : Int) (h : 0 ≤ a) (h' : a < 18446744073709551616) : word_Kind.f (k + 1) a = some (kindOf a) := by
  unfold word_Kind.f
  rw [exp_eq a h h', frac_eq a h h']
  simp only [Option.bind_some, word_Kind.j0, kindOf]
  by_cases h1 : a / 4503599627370496 % 2048 = 0
  · by_cases h2 : a % 4503599627370496 = 0 <;> simp [h1, h2]
  · simp [h1]
    repeat (any_goals split)
    all_goals simp
def nextOf (a : Int) : Int :=
  if kindOf a = 5 ∨ a = 9218868437227405312 then a else if a = 9223372036854775808 then 1 else if 9223372036854775808 ≤ a then a - 1 else a + 1
theorem next_eq (k : Nat) (a : Int) (h : 0 ≤ a) (h' : a < 18446744073709551616) : word_Next.f (k + 1) a = some (nextOf a) := by
  unfold word_Next.f nextOf
  rw [kind_eq k a h h']
  simp only [Option.bind_some, word_Next.j0]
  rw [neg_eq a h h']
  simp only [Option.bind_some]
  by_cases h1 : kindOf a = 5
  · simp [h1]
  · by_cases h2 : a = 9218868437227405312
    · simp [h1, h2]
    · by_cases h3 : a = 9223372036854775808
      · rw [if_neg h1, if_neg (by simp [h1, h2]), if_pos h3]
        rw [if_neg (by simp [h1, h2]), if_pos h3]
      · by_cases h4 : 9223372036854775808 ≤ a
        · have e : IntKind.u64.wrap (a - 1) = a - 1 := U.wrap_u64_id (by omega) (by omega)
          simp [h1, h2, h3, h4, e]
        · have e : IntKind.u64.wrap (a + 1) = a + 1 := U.wrap_u64_id (by omega) (by omega)
          simp [h1, h2, h3, h4, e]
theorem parts_eq (k : Nat) (a : Int) (h : 0 ≤ a) (h' : a < 18446744073709551616) :
    word_Parts.f (k + 1) a = some (if kindOf a = 2 then (a % 4503599627370496, -1074) else if kindOf a = 3 then (a % 4503599627370496 + 4503599627370496, a / 4503599627370496 % 2048 - 1075) else (0, 0)) := by
  unfold word_Parts.f
  rw [kind_eq k a h h', exp_eq a h h', frac_eq a h h']
  simp only [Option.bind_some]
  rw [U.or_52 (by omega) (by omega), U.wrap64_id (by omega) (by omega)]
  by_cases h2 : kindOf a = 2
  · rw [if_pos h2, if_pos h2]
  · rw [if_neg h2, if_neg h2]
    by_cases h3 : kindOf a = 3
    · rw [if_pos h3, if_pos h3]
    · rw [if_neg h3, if_neg h3]
theorem head_eq (k : Nat) : gimballaw01_head.f (k + 1) = some true := by
  unfold gimballaw01_head.f
  rw [parts_eq k _ (by decide) (by decide), next_eq k _ (by decide) (by decide)]
  simp [kindOf, nextOf]
open Go.Proofs.Ytjamobbfafjdmaa.UX
theorem order_self (d : Ieee.Datum) (h : d.isNaN = false) : d.order d = some .eq := by
  cases d with
  | number s m i =>
    simp only [Ieee.Datum.order]
    exact congrArg some (by simp [compare, compareOfLessAndEq])
  | infinity s => simp [Ieee.Datum.order]
  | nan s f => cases h
theorem order_nan (d : Ieee.Datum) (h : d.isNaN = true) : d.order d = none := by
  cases d with
  | number s m i => cases h
  | infinity s => cases h
  | nan s f => rfl
theorem read_nan (n : Nat) : (Ieee.double.read n).isNaN = decide (9218868437227405312 < n % 9223372036854775808) := by
  have s : Ieee.double.signWeight = 9223372036854775808 := by decide
  have b : Ieee.double.binade = 4503599627370496 := by decide
  have i : Ieee.double.infRung = 9218868437227405312 := by decide
  unfold Ieee.Format.read
  simp only [s, b, i]
  split
  · rename_i h; rw [decide_eq_false (by omega)]; rfl
  · split
    · rename_i h; rw [decide_eq_false (by omega)]; rfl
    · split
      · rename_i h; rw [decide_eq_false (by omega)]; rfl
      · rw [decide_eq_true (by omega)]; rfl
theorem fmt : FloatKind.f64.format = Ieee.double := rfl
theorem feq_self (a : Int) (h : 0 ≤ a) (h' : a < 18446744073709551616) : feq a a = decide (¬ kindOf a = 5) := by
  have k : kindOf a = 5 ↔ 9218868437227405312 < a % 9223372036854775808 := by
    unfold kindOf
    repeat (any_goals split)
    all_goals omega
  have r := read_nan a.toNat
  unfold feq
  rw [fmt]
  unfold Ieee.Format.order
  by_cases c : kindOf a = 5
  · rw [order_nan _ (by rw [r]; exact decide_eq_true (by omega)), decide_eq_false (by simpa using c)]; rfl
  · rw [order_self _ (by rw [r]; exact decide_eq_false (by omega)), decide_eq_true c]; rfl
theorem WordFloats : gimballaw01_WordFloats.Pure := by
  intro b wb
  obtain ⟨h, h'⟩ := U.wf_u64 wb
  refine ⟨5, ?_⟩
  have fl : word_Float.f b = some b := rfl
  have of : word_Of.f b = some b := by
    unfold word_Of.f math_Float64bits.f bitsF
    rw [if_pos h]; rfl
  unfold gimballaw01_WordFloats.f
  rw [head_eq 4, U.bs, if_pos rfl, fl, U.bs, kind_eq 4 b h h', U.bs, of, feq_self b h h']
  by_cases c : kindOf b = 5
  · rw [if_pos c, if_neg (by simpa using c), U.bs, kind_eq 4 b h h', U.bs, c]; rfl
  · rw [if_neg c, U.bs, if_pos rfl, decide_eq_true c]
end Go.Proofs.Ytjamobbfafjdmaa.Pure
