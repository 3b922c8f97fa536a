/- The law WordBack of layer 1: of every pattern that is a number and no zero, up and down again, and down and up again, is that pattern; no condition beyond the word's own range. -/
import Derived.Test.YtjamobbfafjdmaaQWordBackx1
import Derived.Test.YtjamobbfafjdmaaU
set_option linter.unusedSimpArgs false
set_option linter.unusedVariables false
set_option exponentiation.threshold 5000
namespace Go.Proofs.Ytjamobbfafjdmaa.Pure
open Go.RowKit Go.Proofs.Ytjamobbfafjdmaa Go.Proofs.Ytjamobbfafjdmaa.QWordBack Go.Proofs.YtjamobbfafjdmaaW.PrintWords Go.Proofs.YtjamobbfafjdmaaW.PrintLast
def kindOf (a : Int) : Int :=
  if a / 4503599627370496 % 2048 = 0 then (if a % 4503599627370496 = 0 then 1 else 2)
  else if a / 4503599627370496 % 2048 < 2047 then 3 else if a % 4503599627370496 = 0 then 4 else 5
theorem neg_eq (a : Int) (h : 0 ≤ a) (h' : a < 18446744073709551616) : word_Neg.f a = some (decide (9223372036854775808 ≤ a)) := by
  unfold word_Neg.f
  congr 1
  by_cases h1 : 9223372036854775808 ≤ a
  · have : a / 9223372036854775808 = 1 := by omega
    simp [h1, this]
  · have : a / 9223372036854775808 = 0 := by omega
    simp [h1, this]
theorem exp_eq (a : Int) (h : 0 ≤ a) (h' : a < 18446744073709551616) : word_Exp.f a = some (a / 4503599627370496 % 2048) := by
  unfold word_Exp.f
  rw [U.and_2047 (by omega) (by omega), U.wrap64_id (by omega) (by omega)]
theorem frac_eq (a : Int) (h : 0 ≤ a) (h' : a < 18446744073709551616) : word_Frac.f a = some (a % 4503599627370496) := by
  unfold word_Frac.f
  rw [U.and_52 h h']
theorem kind_eq (k : Nat) (a : Int) (h : 0 ≤ a) (h' : a < 18446744073709551616) : word_Kind.f (k + 1) a = some (kindOf a) := by
  unfold word_Kind.f
  rw [exp_eq a h h', frac_eq a h h']
  simp only [Option.bind_some, word_Kind.j0, kindOf]
  by_cases h1 : a / 4503599627370496 % 2048 = 0
  · by_cases h2 : a % 4503599627370496 = 0 <;> simp [h1, h2]
  · simp [h1]
    repeat (any_goals split)
    all_goals simp
def nextOf (a : Int) : Int :=
  if kindOf a = 5 ∨ a = 9218868437227405312 then a else if a = 9223372036854775808 then 1 else if 9223372036854775808 ≤ a then a - 1 else a + 1
theorem next_eq (k : Nat) (a : Int) (h : 0 ≤ a) (h' : a < 18446744073709551616) : word_Next.f (k + 1) a = some (nextOf a) := by
  unfold word_Next.f nextOf
  rw [kind_eq k a h h']
  simp only [Option.bind_some, word_Next.j0]
  rw [neg_eq a h h']
  simp only [Option.bind_some]
  by_cases h1 : kindOf a = 5
  · simp [h1]
  · by_cases h2 : a = 9218868437227405312
    · simp [h1, h2]
    · by_cases h3 : a = 9223372036854775808
      · rw [if_neg h1, if_neg (by simp [h1, h2]), if_pos h3]
        rw [if_neg (by simp [h1, h2]), if_pos h3]
      · by_cases h4 : 9223372036854775808 ≤ a
        · have e : IntKind.u64.wrap (a - 1) = a - 1 := U.wrap_u64_id (by omega) (by omega)
          simp [h1, h2, h3, h4, e]
        · have e : IntKind.u64.wrap (a + 1) = a + 1 := U.wrap_u64_id (by omega) (by omega)
          simp [h1, h2, h3, h4, e]
theorem parts_eq (k : Nat) (a : Int) (h : 0 ≤ a) (h' : a < 18446744073709551616) :
    word_Parts.f (k + 1) a = some (if kindOf a = 2 then (a % 4503599627370496, -1074) else if kindOf a = 3 then (a % 4503599627370496 + 4503599627370496, a / 4503599627370496 % 2048 - 1075) else (0, 0)) := by
  unfold word_Parts.f
  rw [kind_eq k a h h', exp_eq a h h', frac_eq a h h']
  simp only [Option.bind_some]
  rw [U.or_52 (by omega) (by omega), U.wrap64_id (by omega) (by omega)]
  by_cases h2 : kindOf a = 2
  · rw [if_pos h2, if_pos h2]
  · rw [if_neg h2, if_neg h2]
    by_cases h3 : kindOf a = 3
    · rw [if_pos h3, if_pos h3]
    · rw [if_neg h3, if_neg h3]
theorem head_eq (k : Nat) : gimballaw01_head.f (k + 1) = some true := by
  unfold gimballaw01_head.f
  rw [parts_eq k _ (by decide) (by decide), next_eq k _ (by decide) (by decide)]
  simp [kindOf, nextOf]
theorem abs_eq (a : Int) (h : 0 ≤ a) (h' : a < 18446744073709551616) : word_Abs.f a = some (a % 9223372036854775808) := by
  unfold word_Abs.f
  rw [U.andNot_63 h h']
def flipOf (a : Int) : Int := if a < 9223372036854775808 then a + 9223372036854775808 else a - 9223372036854775808
theorem flip_eq (a : Int) (h : 0 ≤ a) (h' : a < 18446744073709551616) : word_Flip.f a = some (flipOf a) := by
  unfold word_Flip.f flipOf
  rw [U.xor_63 h h']
theorem flip_bd (a : Int) (h : 0 ≤ a) (h' : a < 18446744073709551616) : 0 ≤ flipOf a ∧ flipOf a < 18446744073709551616 := by
  unfold flipOf; split <;> omega
def prevOf (a : Int) : Int := if kindOf a = 5 then a else flipOf (nextOf (flipOf a))
theorem next_bd (a : Int) (h : 0 ≤ a) (h' : a < 18446744073709551616) : 0 ≤ nextOf a ∧ nextOf a < 18446744073709551616 := by
  unfold nextOf; split
  · omega
  · split
    · omega
    · split <;> omega
theorem prev_eq (k : Nat) (a : Int) (h : 0 ≤ a) (h' : a < 18446744073709551616) : word_Prev.f (k + 1) a = some (prevOf a) := by
  have hf := flip_bd a h h'
  have hn := next_bd _ hf.1 hf.2
  have e1 := flip_eq a h h'
  have e2 := next_eq k _ hf.1 hf.2
  have e3 := flip_eq _ hn.1 hn.2
  unfold word_Prev.f prevOf
  rw [kind_eq k a h h', Option.bind_some]
  by_cases hk : kindOf a = 5
  · rw [if_pos hk, if_pos hk]
  · rw [if_neg hk, if_neg hk, e1, Option.bind_some, e2, Option.bind_some, e3, Option.bind_some]
theorem kind5 (a : Int) (h : 0 ≤ a) (h' : a < 18446744073709551616) : kindOf a = 5 ↔ 9218868437227405312 < a % 9223372036854775808 := by
  unfold kindOf
  repeat (any_goals split)
  all_goals omega
theorem next_form (a : Int) (h : 0 ≤ a) (h' : a < 18446744073709551616) : nextOf a = if 9218868437227405312 ≤ a ∧ a < 9223372036854775808 ∨ 18442240474082181120 < a then a else if a = 9223372036854775808 then 1 else if 9223372036854775808 ≤ a then a - 1 else a + 1 := by
  have k := kind5 a h h'
  unfold nextOf
  by_cases h1 : kindOf a = 5 ∨ a = 9218868437227405312
  · rw [if_pos h1, if_pos (by omega)]
  · have h2 : ¬ kindOf a = 5 := fun e => h1 (Or.inl e)
    have h3 : ¬ a = 9218868437227405312 := fun e => h1 (Or.inr e)
    rw [if_neg h1]
    rw [k] at h2
    have h5 : ¬ (9218868437227405312 ≤ a ∧ a < 9223372036854775808 ∨ 18442240474082181120 < a) := by omega
    rw [if_neg h5]
theorem prev_form (a : Int) (h : 0 ≤ a) (h' : a < 18446744073709551616) : prevOf a = if 9218868437227405312 < a ∧ a < 9223372036854775808 ∨ 18442240474082181120 ≤ a then a else if a = 0 then 9223372036854775809 else if 9223372036854775808 ≤ a then a + 1 else a - 1 := by
  have k := kind5 a h h'
  have hf := flip_bd a h h'
  unfold prevOf
  rw [next_form _ hf.1 hf.2]
  unfold flipOf
  repeat (any_goals split)
  all_goals omega
theorem back1 (a : Int) (h : 0 ≤ a) (h' : a < 18446744073709551616) (h1 : kindOf a ≠ 5) (h2 : a % 9223372036854775808 ≠ 0) (h3 : a % 9223372036854775808 ≠ 9218868437227405312) :
    prevOf (nextOf a) = a ∧ nextOf (prevOf a) = a := by
  have k1 := kind5 a h h'
  have hn := next_bd a h h'
  have nf := next_form a h h'
  have pf := prev_form a h h'
  have hp : 0 ≤ prevOf a ∧ prevOf a < 18446744073709551616 := by
    rw [pf]; repeat (any_goals split)
    all_goals omega
  have n1 : nextOf a = if 9223372036854775808 ≤ a then a - 1 else a + 1 := by
    rw [nf, if_neg (by omega), if_neg (by omega)]
  have p1 : prevOf a = if 9223372036854775808 ≤ a then a + 1 else a - 1 := by
    rw [pf, if_neg (by omega), if_neg (by omega)]
  constructor
  · rw [prev_form _ hn.1 hn.2]
    by_cases c : 9223372036854775808 ≤ a
    · rw [if_pos c] at n1
      rw [n1, if_neg (by omega), if_neg (by omega), if_pos (by omega)]; omega
    · rw [if_neg c] at n1
      rw [n1, if_neg (by omega), if_neg (by omega), if_neg (by omega)]; omega
  · rw [next_form _ hp.1 hp.2]
    by_cases c : 9223372036854775808 ≤ a
    · rw [if_pos c] at p1
      rw [p1, if_neg (by omega), if_neg (by omega), if_pos (by omega)]; omega
    · rw [if_neg c] at p1
      by_cases c2 : a = 1
      · rw [p1, c2]; rfl
      · rw [p1, if_neg (by omega), if_neg (by omega), if_neg (by omega)]; omega
theorem WordBack : gimballaw01_WordBack.Pure := by
  intro a wa
  obtain ⟨h, h'⟩ := U.wf_u64 wa
  refine ⟨2, ?_⟩
  unfold gimballaw01_WordBack.f
  have hn := next_bd a h h'
  have hp : 0 ≤ prevOf a ∧ prevOf a < 18446744073709551616 := by
    unfold prevOf; split
    · omega
    · have hf := flip_bd a h h'
      have hnf := next_bd _ hf.1 hf.2
      exact flip_bd _ hnf.1 hnf.2
  rw [head_eq, kind_eq 1 a h h', abs_eq a h h']
  simp only [U.bs, if_true, gimballaw01_WordBack.j0]
  rw [next_eq 0 a h h', prev_eq 0 a h h']
  simp only [U.bs]
  rw [prev_eq 0 _ hn.1 hn.2, next_eq 0 _ hp.1 hp.2]
  simp only [U.bs]
  by_cases h1 : kindOf a = 5
  · simp [h1]
  · by_cases h2 : a % 9223372036854775808 = 0
    · simp [h2]
    · by_cases h3 : a % 9223372036854775808 = 9218868437227405312
      · simp [h3]
      · obtain ⟨p, q⟩ := back1 a h h' h1 h2 h3
        simp [h1, h2, h3, p, q]
end Go.Proofs.Ytjamobbfafjdmaa.Pure
