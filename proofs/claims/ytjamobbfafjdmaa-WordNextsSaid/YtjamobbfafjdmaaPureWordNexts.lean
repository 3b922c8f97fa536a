/- The law WordNexts of layer 1: the pattern above any one is above it, the one beneath is beneath it, and nothing stands between; no condition beyond the words' own range. -/
import Derived.Test.YtjamobbfafjdmaaPWordNextsx2
import Derived.Test.YtjamobbfafjdmaaU
set_option linter.unusedSimpArgs false
set_option linter.unusedVariables false
namespace Go.Proofs.Ytjamobbfafjdmaa.Pure
open Go.RowKit Go.Proofs.Ytjamobbfafjdmaa Go.Proofs.Ytjamobbfafjdmaa.PWordNexts Go.Proofs.YtjamobbfafjdmaaW.PrintWords Go.Proofs.YtjamobbfafjdmaaW.PrintLast
def kindOf (a : Int) : Int :=
  if a / 4503599627370496 % 2048 = 0 then (if a % 4503599627370496 = 0 then 1 else 2)
  else if a / 4503599627370496 % 2048 < 2047 then 3 else if a % 4503599627370496 = 0 then 4 else 5
theorem neg_eq (a : Int) (h : 0 ≤ a) (h' : a < 18446744073709551616) : word_Neg.f a = some (decide (9223372036854775808 ≤ a)) := by
  unfold word_Neg.f
  congr 1
  by_cases h1 : 9223372036854775808 ≤ a
  · have : a / 9223372036854775808 = 1 := by omega
    simp [h1, this]
  · have : a / 9223372036854775808 = 0 := by omega
    simp [h1, this]
theorem exp_eq (a : Int) (h : 0 ≤ a) (h' : a < 18446744073709551616) : word_Exp.f a = some (a / 4503599627370496 % 2048) := by
  unfold word_Exp.f
  rw [U.and_2047 (by omega) (by omega), U.wrap64_id (by omega) (by omega)]
theorem frac_eq (a : Int) (h : 0 ≤ a) (h' : a < 18446744073709551616) : word_Frac.f a = some (a % 4503599627370496) := by
  unfold word_Frac.f
  rw [U.and_52 h h']
theorem kind_eq (k : Nat) (a : Int) (h : 0 ≤ a) (h' : a < 18446744073709551616) : word_Kind.f (k + 1) a = some (kindOf a) := by
  unfold word_Kind.f
  rw [exp_eq a h h', frac_eq a h h']
  simp only [Option.bind_some, word_Kind.j0, kindOf]
  by_cases h1 : a / 4503599627370496 % 2048 = 0
  · by_cases h2 : a % 4503599627370496 = 0 <;> simp [h1, h2]
  · simp [h1]
    repeat (any_goals split)
    all_goals simp
def nextOf (a : Int) : Int :=
  if kindOf a = 5 ∨ a = 9218868437227405312 then a else if a = 9223372036854775808 then 1 else if 9223372036854775808 ≤ a then a - 1 else a + 1
theorem next_eq (k : Nat) (a : Int) (h : 0 ≤ a) (h' : a < 18446744073709551616) : word_Next.f (k + 1) a = some (nextOf a) := by
  unfold word_Next.f nextOf
  rw [kind_eq k a h h']
  simp only [Option.bind_some, word_Next.j0]
  rw [neg_eq a h h']
  simp only [Option.bind_some]
  by_cases h1 : kindOf a = 5
  · simp [h1]
  · by_cases h2 : a = 9218868437227405312
    · simp [h1, h2]
    · by_cases h3 : a = 9223372036854775808
      · rw [if_neg h1, if_neg (by simp [h1, h2]), if_pos h3]
        rw [if_neg (by simp [h1, h2]), if_pos h3]
      · by_cases h4 : 9223372036854775808 ≤ a
        · have e : IntKind.u64.wrap (a - 1) = a - 1 := U.wrap_u64_id (by omega) (by omega)
          simp [h1, h2, h3, h4, e]
        · have e : IntKind.u64.wrap (a + 1) = a + 1 := U.wrap_u64_id (by omega) (by omega)
          simp [h1, h2, h3, h4, e]
theorem parts_eq (k : Nat) (a : Int) (h : 0 ≤ a) (h' : a < 18446744073709551616) :
    word_Parts.f (k + 1) a = some (if kindOf a = 2 then (a % 4503599627370496, -1074) else if kindOf a = 3 then (a % 4503599627370496 + 4503599627370496, a / 4503599627370496 % 2048 - 1075) else (0, 0)) := by
  unfold word_Parts.f
  rw [kind_eq k a h h', exp_eq a h h', frac_eq a h h']
  simp only [Option.bind_some]
  rw [U.or_52 (by omega) (by omega), U.wrap64_id (by omega) (by omega)]
  by_cases h2 : kindOf a = 2
  · rw [if_pos h2, if_pos h2]
  · rw [if_neg h2, if_neg h2]
    by_cases h3 : kindOf a = 3
    · rw [if_pos h3, if_pos h3]
    · rw [if_neg h3, if_neg h3]
theorem head_eq (k : Nat) : gimballaw01_head.f (k + 1) = some true := by
  unfold gimballaw01_head.f
  rw [parts_eq k _ (by decide) (by decide), next_eq k _ (by decide) (by decide)]
  simp [kindOf, nextOf]
theorem abs_eq (a : Int) (h : 0 ≤ a) (h' : a < 18446744073709551616) : word_Abs.f a = some (a % 9223372036854775808) := by
  unfold word_Abs.f
  rw [U.andNot_63 h h']
def flipOf (a : Int) : Int := if a < 9223372036854775808 then a + 9223372036854775808 else a - 9223372036854775808
theorem flip_eq (a : Int) (h : 0 ≤ a) (h' : a < 18446744073709551616) : word_Flip.f a = some (flipOf a) := by
  unfold word_Flip.f flipOf
  rw [U.xor_63 h h']
theorem flip_bd (a : Int) (h : 0 ≤ a) (h' : a < 18446744073709551616) : 0 ≤ flipOf a ∧ flipOf a < 18446744073709551616 := by
  unfold flipOf; split <;> omega
def prevOf (a : Int) : Int := if kindOf a = 5 then a else flipOf (nextOf (flipOf a))
theorem next_bd (a : Int) (h : 0 ≤ a) (h' : a < 18446744073709551616) : 0 ≤ nextOf a ∧ nextOf a < 18446744073709551616 := by
  unfold nextOf; split
  · omega
  · split
    · omega
    · split <;> omega
theorem prev_eq (k : Nat) (a : Int) (h : 0 ≤ a) (h' : a < 18446744073709551616) : word_Prev.f (k + 1) a = some (prevOf a) := by
  have hf := flip_bd a h h'
  have hn := next_bd _ hf.1 hf.2
  have e1 := flip_eq a h h'
  have e2 := next_eq k _ hf.1 hf.2
  have e3 := flip_eq _ hn.1 hn.2
  unfold word_Prev.f prevOf
  rw [kind_eq k a h h', Option.bind_some]
  by_cases hk : kindOf a = 5
  · rw [if_pos hk, if_pos hk]
  · rw [if_neg hk, if_neg hk, e1, Option.bind_some, e2, Option.bind_some, e3, Option.bind_some]
def lessOf (a b : Int) : Bool :=
  if 9223372036854775808 ≤ a then (if 9223372036854775808 ≤ b then decide (a > b) else decide (a > 9223372036854775808 ∨ b > 0))
  else if 9223372036854775808 ≤ b then false else decide (a < b)
theorem less_eq (k : Nat) (a b : Int) (h : 0 ≤ a) (h' : a < 18446744073709551616) (g : 0 ≤ b) (g' : b < 18446744073709551616) : gimballaw01_less.f (k + 1) a b = some (lessOf a b) := by
  unfold gimballaw01_less.f lessOf
  rw [abs_eq a h h', abs_eq b g g', neg_eq a h h', neg_eq b g g']
  simp only [Option.bind_some, gimballaw01_less.j0]
  rw [neg_eq a h h', neg_eq b g g']
  simp only [Option.bind_some]
  by_cases h1 : 9223372036854775808 ≤ a
  · by_cases h2 : 9223372036854775808 ≤ b
    · simp [h1, h2]; omega
    · simp [h1, h2]
      by_cases h3 : 0 < a % 9223372036854775808
      · have : 9223372036854775808 < a := by omega
        rw [if_pos h3]; simp [this]
      · have : ¬ 9223372036854775808 < a := by omega
        have e : b % 9223372036854775808 = b := by omega
        rw [if_neg h3, e]; simp [this]
  · by_cases h2 : 9223372036854775808 ≤ b
    · simp [h1, h2]
    · have e : b % 9223372036854775808 = b := by omega
      have e1 : a % 9223372036854775808 = a := by omega
      simp [h1, h2, e, e1]
theorem kind5 (a : Int) (h : 0 ≤ a) (h' : a < 18446744073709551616) : kindOf a = 5 ↔ 9218868437227405312 < a % 9223372036854775808 := by
  unfold kindOf
  repeat (any_goals split)
  all_goals omega
theorem next_form (a : Int) (h : 0 ≤ a) (h' : a < 18446744073709551616) : nextOf a = if 9218868437227405312 ≤ a ∧ a < 9223372036854775808 ∨ 18442240474082181120 < a then a else if a = 9223372036854775808 then 1 else if 9223372036854775808 ≤ a then a - 1 else a + 1 := by
  have k := kind5 a h h'
  unfold nextOf
  by_cases h1 : kindOf a = 5 ∨ a = 9218868437227405312
  · rw [if_pos h1, if_pos (by omega)]
  · have h2 : ¬ kindOf a = 5 := fun e => h1 (Or.inl e)
    have h3 : ¬ a = 9218868437227405312 := fun e => h1 (Or.inr e)
    rw [if_neg h1]
    rw [k] at h2
    have h5 : ¬ (9218868437227405312 ≤ a ∧ a < 9223372036854775808 ∨ 18442240474082181120 < a) := by omega
    rw [if_neg h5]
theorem prev_form (a : Int) (h : 0 ≤ a) (h' : a < 18446744073709551616) : prevOf a = if 9218868437227405312 < a ∧ a < 9223372036854775808 ∨ 18442240474082181120 ≤ a then a else if a = 0 then 9223372036854775809 else if 9223372036854775808 ≤ a then a + 1 else a - 1 := by
  have k := kind5 a h h'
  have hf := flip_bd a h h'
  unfold prevOf
  rw [next_form _ hf.1 hf.2]
  unfold flipOf
  repeat (any_goals split)
  all_goals omega
theorem less_iff (a b : Int) : lessOf a b = true ↔ (9223372036854775808 ≤ a ∧ 9223372036854775808 ≤ b ∧ b < a) ∨ (9223372036854775808 ≤ a ∧ b < 9223372036854775808 ∧ (9223372036854775808 < a ∨ 0 < b)) ∨ (a < 9223372036854775808 ∧ b < 9223372036854775808 ∧ a < b) := by
  unfold lessOf
  repeat (any_goals split)
  all_goals simp
  all_goals omega
theorem WordNexts : gimballaw01_WordNexts.Pure := by
  intro a c wa wc
  obtain ⟨h, h'⟩ := U.wf_u64 wa
  obtain ⟨g, g'⟩ := U.wf_u64 wc
  refine ⟨4, ?_⟩
  unfold gimballaw01_WordNexts.f
  have nf := next_form a h h'
  have pf := prev_form a h h'
  have ka := kind5 a h h'
  have kc := kind5 c g g'
  have hn := next_bd a h h'
  have hp : 0 ≤ prevOf a ∧ prevOf a < 18446744073709551616 := by
    rw [pf]; repeat (any_goals split)
    all_goals omega
  rw [head_eq, kind_eq _ a h h', next_eq _ a h h', prev_eq _ a h h']
  simp only [Option.bind_some, if_true, gimballaw01_WordNexts.j0, gimballaw01_WordNexts.j1]
  rw [less_eq _ _ _ h h' hn.1 hn.2, kind_eq _ c g g', less_eq _ _ _ hp.1 hp.2 h h', less_eq _ _ _ h h' g g', less_eq _ _ _ g g' hn.1 hn.2, less_eq _ _ _ hp.1 hp.2 g g', less_eq _ _ _ g g' h h']
  simp only [Option.bind_some]
  by_cases h1 : kindOf a = 5
  · have e1 : nextOf a = a := by rw [nf, if_pos (by omega)]
    have e2 : prevOf a = a := by rw [pf, if_pos (by omega)]
    simp [h1, e1, e2]
  · have q1 : a = 9218868437227405312 ∨ lessOf a (nextOf a) = true := by
      rw [less_iff, nf]; repeat (any_goals split)
      all_goals omega
    have q1' : a = 9218868437227405312 → nextOf a = a := by
      intro h; rw [nf, if_pos (by omega)]
    have q2 : a = 18442240474082181120 ∨ lessOf (prevOf a) a = true := by
      rw [less_iff, pf]; repeat (any_goals split)
      all_goals omega
    have q2' : a = 18442240474082181120 → prevOf a = a := by
      intro h; rw [pf, if_pos (by omega)]
    have q3 : kindOf c ≠ 5 → ¬ (lessOf a c = true ∧ lessOf c (nextOf a) = true) := by
      intro h5; rw [less_iff, less_iff, nf]; repeat (any_goals split)
      all_goals omega
    have q4 : kindOf c ≠ 5 → ¬ (lessOf (prevOf a) c = true ∧ lessOf c a = true) := by
      intro h5; rw [less_iff, less_iff, pf]; repeat (any_goals split)
      all_goals omega
    rw [if_neg h1]
    have fin : (if kindOf c = 5 then some true else if lessOf a c = true then if lessOf c (nextOf a) = true then some false else if lessOf (prevOf a) c = true then some (!lessOf c a) else some !false else if lessOf (prevOf a) c = true then some (!lessOf c a) else some !false) = some true := by
      by_cases h5 : kindOf c = 5
      · simp [h5]
      · have q3 := q3 h5
        have q4 := q4 h5
        simp only [h5, if_false]
        cases x1 : lessOf a c <;> cases x2 : lessOf c (nextOf a) <;> cases x3 : lessOf (prevOf a) c <;> cases x4 : lessOf c a <;> simp_all
    rw [fin]
    by_cases h2 : a = 9218868437227405312
    · have h3 : a ≠ 18442240474082181120 := by omega
      have q2 := q2.resolve_left h3
      simp only [h2] at *
      simp [q1', q2, h3]
    · have q1 := q1.resolve_left h2
      rw [if_neg h2, q1]
      by_cases h3 : a = 18442240474082181120
      · have := q2' h3
        simp [h3] at *
        simp [this]
      · have q2 := q2.resolve_left h3
        simp [h3, q2]
end Go.Proofs.Ytjamobbfafjdmaa.Pure
