/- The law OrderMost of layer 6: the greater and the lesser of any two patterns; no condition beyond the words' own range. -/
import Derived.Test.YtlnpcbhbcmhbkaaPOrderMostx2
import Derived.Test.YtlnpcbhbcmhbkaaU
set_option linter.unusedSimpArgs false
set_option linter.unusedVariables false
namespace Go.Proofs.Ytlnpcbhbcmhbkaa.Pure
open Go.RowKit Go.Proofs.Ytlnpcbhbcmhbkaa Go.Proofs.Ytlnpcbhbcmhbkaa.POrderMost Go.Proofs.YtlnpcbhbcmhbkaaW.PrintWords Go.Proofs.YtlnpcbhbcmhbkaaW.PrintLast
def kindOf (a : Int) : Int :=
  if a / 4503599627370496 % 2048 = 0 then (if a % 4503599627370496 = 0 then 1 else 2)
  else if a / 4503599627370496 % 2048 < 2047 then 3 else if a % 4503599627370496 = 0 then 4 else 5
theorem neg_eq (a : Int) (h : 0 ≤ a) (h' : a < 18446744073709551616) : word_Neg.f a = some (decide (9223372036854775808 ≤ a)) := by
  unfold word_Neg.f
  congr 1
  by_cases h1 : 9223372036854775808 ≤ a
  · have : a / 9223372036854775808 = 1 := by omega
    simp [h1, this]
  · have : a / 9223372036854775808 = 0 := by omega
    simp [h1, this]
theorem exp_eq (a : Int) (h : 0 ≤ a) (h' : a < 18446744073709551616) : word_Exp.f a = some (a / 4503599627370496 % 2048) := by
  unfold word_Exp.f
  rw [U.and_2047 (by omega) (by omega), U.wrap64_id (by omega) (by omega)]
theorem frac_eq (a : Int) (h : 0 ≤ a) (h' : a < 18446744073709551616) : word_Frac.f a = some (a % 4503599627370496) := by
  unfold word_Frac.f
  rw [U.and_52 h h']
theorem kind_eq (k : Nat) (a : Int) (h : 0 ≤ a) (h' : a < 18446744073709551616) : word_Kind.f (k + 1) a = some (kindOf a) := by
  unfold word_Kind.f
  rw [exp_eq a h h', frac_eq a h h']
  simp only [Option.bind_some, word_Kind.j0, kindOf]
  by_cases h1 : a / 4503599627370496 % 2048 = 0
  · by_cases h2 : a % 4503599627370496 = 0 <;> simp [h1, h2]
  · simp [h1]
    repeat (any_goals split)
    all_goals simp
theorem abs_eq (a : Int) (h : 0 ≤ a) (h' : a < 18446744073709551616) : word_Abs.f a = some (a % 9223372036854775808) := by
  unfold word_Abs.f
  rw [U.andNot_63 h h']
theorem signals_eq (k : Nat) (a : Int) (h : 0 ≤ a) (h' : a < 18446744073709551616) : word_Signals.f (k + 1) a = some (decide (kindOf a = 5 ∧ a % 4503599627370496 < 2251799813685248)) := by
  unfold word_Signals.f
  rw [kind_eq k a h h']
  simp only [Option.bind_some]
  rw [U.and_1 (by omega) (by omega)]
  by_cases h1 : kindOf a = 5
  · rw [if_pos h1]
    by_cases h2 : a % 4503599627370496 < 2251799813685248
    · have : a / 2251799813685248 % 2 = 0 := by omega
      simp [h1, h2, this]
    · have : a / 2251799813685248 % 2 = 1 := by omega
      simp [h1, h2, this]
  · simp [h1]
def cmp3 (x y : Int) : Int := if x < y then -1 else if x > y then 1 else 0
theorem cmp3_cases (x y : Int) : (cmp3 x y = -1 ∧ x < y) ∨ (cmp3 x y = 1 ∧ y < x) ∨ (cmp3 x y = 0 ∧ x = y) := by
  unfold cmp3; repeat (any_goals split)
  all_goals omega
def rankOf (a : Int) : Int := if 9223372036854775808 ≤ a then 9223372036854775808 - a else a
def keyOf (a : Int) : Int := if 9223372036854775808 ≤ a then 9223372036854775807 - a else a
theorem rank_eq (a : Int) (h : 0 ≤ a) (h' : a < 18446744073709551616) : order_rank.f a = some (rankOf a) := by
  unfold order_rank.f rankOf
  rw [neg_eq a h h', abs_eq a h h']
  simp only [Option.bind_some]
  by_cases h1 : 9223372036854775808 ≤ a
  · have e : wrap64 (-(wrap64 (a % 9223372036854775808))) = 9223372036854775808 - a := by
      rw [U.wrap64_id (a := a % 9223372036854775808) (by omega) (by omega), U.wrap64_id (by omega) (by omega)]; omega
    rw [e]; simp [h1]
  · rw [U.wrap64_id (a := a) (by omega) (by omega)]; simp [h1]
def cmpOf (a b : Int) : Int × Bool := if kindOf a = 5 ∨ kindOf b = 5 then (0, false) else (cmp3 (rankOf a) (rankOf b), true)
theorem cmp_eq (k : Nat) (a b : Int) (h : 0 ≤ a) (h' : a < 18446744073709551616) (g : 0 ≤ b) (g' : b < 18446744073709551616) : order_Cmp.f (k + 1) a b = some (cmpOf a b) := by
  unfold order_Cmp.f cmpOf
  rw [kind_eq k a h h', kind_eq k b g g']
  simp only [Option.bind_some, order_Cmp.j0]
  rw [rank_eq a h h', rank_eq b g g']
  simp only [Option.bind_some]
  by_cases h1 : kindOf a = 5
  · simp [h1]
  · by_cases h2 : kindOf b = 5
    · simp [h1, h2]
    · simp only [h1, h2, cmp3]
      by_cases c1 : rankOf a < rankOf b
      · simp [c1, h2]
      · by_cases c2 : rankOf a > rankOf b
        · simp [c1, c2, h2]
        · simp [c1, c2, h2]
theorem total_eq (k : Nat) (a b : Int) (h : 0 ≤ a) (h' : a < 18446744073709551616) (g : 0 ≤ b) (g' : b < 18446744073709551616) : order_Total.f (k + 2) a b = some (cmp3 (keyOf a) (keyOf b)) := by
  have ea : 9223372036854775808 ≤ a → wrap64 a = a - 18446744073709551616 := fun _ => by unfold wrap64; omega
  have eb : 9223372036854775808 ≤ b → wrap64 b = b - 18446744073709551616 := fun _ => by unfold wrap64; omega
  have ea' : ¬ 9223372036854775808 ≤ a → wrap64 a = a := fun _ => U.wrap64_id (by omega) (by omega)
  have eb' : ¬ 9223372036854775808 ≤ b → wrap64 b = b := fun _ => U.wrap64_id (by omega) (by omega)
  have fin : ∀ x y, order_Total.j1 (k + 1) x y = some (cmp3 x y) := by
    intro x y
    simp only [order_Total.j1, cmp3]
    by_cases c1 : x < y
    · rw [if_pos c1, if_pos c1]
    · rw [if_neg c1, if_neg c1]
      by_cases c2 : x > y
      · rw [if_pos c2, if_pos c2]
      · rw [if_neg c2, if_neg c2]
  have fin0 : ∀ x, order_Total.j0 (k + 2) x (wrap64 b) = some (cmp3 x (keyOf b)) := by
    intro x
    simp only [order_Total.j0]
    unfold keyOf
    by_cases h2 : 9223372036854775808 ≤ b
    · have e := eb h2
      rw [e, if_pos (by omega), if_pos h2, fin, U.xor_low63 (by omega) (by omega)]
      congr 2; omega
    · have e := eb' h2
      rw [e, if_neg (by omega), if_neg h2, fin]
  unfold order_Total.f
  rw [fin0, fin0]
  by_cases h1 : 9223372036854775808 ≤ a
  · have e := ea h1
    rw [e, if_pos (by omega), U.xor_low63 (by omega) (by omega)]
    unfold keyOf
    rw [if_pos h1]
    congr 2; omega
  · have e := ea' h1
    rw [e, if_neg (by omega)]
    have : keyOf a = a := by unfold keyOf; rw [if_neg h1]
    rw [this]
theorem cmp3_eq (x y : Int) (f : Bool) : (if x < y then some ((-1 : Int), f) else if x > y then some (1, f) else some (0, f)) = some (cmp3 x y, f) := by
  unfold cmp3; repeat (any_goals split)
  all_goals rfl
theorem nan_eq (k : Nat) (a b : Int) (h : 0 ≤ a) (h' : a < 18446744073709551616) (g : 0 ≤ b) (g' : b < 18446744073709551616) :
    order_nan.f (k + 2) a b = some (if (kindOf a = 5 ∧ a % 4503599627370496 < 2251799813685248) ∨ (kindOf b = 5 ∧ b % 4503599627370496 < 2251799813685248) then (16, true) else (0, decide (kindOf a = 5 ∨ kindOf b = 5))) := by
  unfold order_nan.f
  rw [signals_eq _ a h h', signals_eq _ b g g']
  simp only [Option.bind_some, order_nan.j0]
  rw [kind_eq _ a h h', kind_eq _ b g g']
  simp only [Option.bind_some]
  by_cases h1 : kindOf a = 5 ∧ a % 4503599627370496 < 2251799813685248
  · simp [h1]
  · by_cases h2 : kindOf b = 5 ∧ b % 4503599627370496 < 2251799813685248
    · simp [h1, h2]
    · have e1 : decide (kindOf a = 5 ∧ a % 4503599627370496 < 2251799813685248) = false := decide_eq_false h1
      have e2 : decide (kindOf b = 5 ∧ b % 4503599627370496 < 2251799813685248) = false := decide_eq_false h2
      have e3 : ¬ ((kindOf a = 5 ∧ a % 4503599627370496 < 2251799813685248) ∨ (kindOf b = 5 ∧ b % 4503599627370496 < 2251799813685248)) := fun o => o.elim h1 h2
      rw [e1, e2, if_neg e3]
      by_cases c1 : kindOf a = 5
      · simp [c1]
      · by_cases c2 : kindOf b = 5
        · simp [c1, c2]
        · simp [c1, c2]
theorem by_eq (c a b : Int) : order_by_uint64.f c a b = some (if c < 0 then b else a) := by
  unfold order_by_uint64.f; split <;> rfl
def maxOf (a b : Int) : Int := if keyOf a < keyOf b then b else a
def minOf (a b : Int) : Int := if keyOf b < keyOf a then b else a
def sigs (a b : Int) : Int := if (kindOf a = 5 ∧ a % 4503599627370496 < 2251799813685248) ∨ (kindOf b = 5 ∧ b % 4503599627370496 < 2251799813685248) then 16 else 0
theorem max_eq (k : Nat) (a b : Int) (h : 0 ≤ a) (h' : a < 18446744073709551616) (g : 0 ≤ b) (g' : b < 18446744073709551616) :
    order_Max.f (k + 2) a b = some (if kindOf a = 5 ∨ kindOf b = 5 then (9221120237041090560, sigs a b) else (maxOf a b, 0)) := by
  unfold order_Max.f
  rw [nan_eq _ a b h h' g g', total_eq _ a b h h' g g']
  simp only [Option.bind_some, by_eq]
  unfold sigs maxOf
  by_cases h1 : (kindOf a = 5 ∧ a % 4503599627370496 < 2251799813685248) ∨ (kindOf b = 5 ∧ b % 4503599627370496 < 2251799813685248)
  · have h2 : kindOf a = 5 ∨ kindOf b = 5 := h1.imp (fun x => x.1) (fun x => x.1)
    rw [if_pos h1, if_pos h2, if_pos h1]; rfl
  · rw [if_neg h1, if_neg h1]
    by_cases h2 : kindOf a = 5 ∨ kindOf b = 5
    · rw [if_pos h2]; simp [h2]
    · rw [if_neg h2]
      have e := cmp3_cases (keyOf a) (keyOf b)
      simp only [h2, decide_false, Bool.false_eq_true, if_false]
      by_cases c : keyOf a < keyOf b
      · rw [if_pos c, if_pos (by omega)]
      · rw [if_neg c, if_neg (by omega)]
theorem min_eq (k : Nat) (a b : Int) (h : 0 ≤ a) (h' : a < 18446744073709551616) (g : 0 ≤ b) (g' : b < 18446744073709551616) :
    order_Min.f (k + 2) a b = some (if kindOf a = 5 ∨ kindOf b = 5 then (9221120237041090560, sigs a b) else (minOf a b, 0)) := by
  unfold order_Min.f
  rw [nan_eq _ a b h h' g g', total_eq _ a b h h' g g']
  simp only [Option.bind_some, by_eq]
  unfold sigs minOf
  have e := cmp3_cases (keyOf a) (keyOf b)
  have ew : wrap64 (-cmp3 (keyOf a) (keyOf b)) = -cmp3 (keyOf a) (keyOf b) := U.wrap64_id (by omega) (by omega)
  rw [ew]
  by_cases h1 : (kindOf a = 5 ∧ a % 4503599627370496 < 2251799813685248) ∨ (kindOf b = 5 ∧ b % 4503599627370496 < 2251799813685248)
  · have h2 : kindOf a = 5 ∨ kindOf b = 5 := h1.imp (fun x => x.1) (fun x => x.1)
    rw [if_pos h1, if_pos h2, if_pos h1]; rfl
  · rw [if_neg h1, if_neg h1]
    by_cases h2 : kindOf a = 5 ∨ kindOf b = 5
    · rw [if_pos h2]; simp [h2]
    · rw [if_neg h2]
      simp only [h2, decide_false, Bool.false_eq_true, if_false]
      by_cases c : keyOf b < keyOf a
      · rw [if_pos c, if_pos (by omega)]
      · rw [if_neg c, if_neg (by omega)]
theorem head_eq (k : Nat) : gimballaw06_head.f (k + 2) = some true := by
  unfold gimballaw06_head.f
  rw [max_eq k _ _ (by decide) (by decide) (by decide) (by decide), cmp_eq (k + 1) _ _ (by decide) (by decide) (by decide) (by decide)]
  simp [kindOf, cmpOf, maxOf, keyOf, rankOf, cmp3]
def lessOf (a b : Int) : Bool := decide (kindOf a ≠ 5 ∧ kindOf b ≠ 5 ∧ rankOf a < rankOf b)
theorem less_eq (k : Nat) (a b : Int) (h : 0 ≤ a) (h' : a < 18446744073709551616) (g : 0 ≤ b) (g' : b < 18446744073709551616) : order_Less.f (k + 1) a b = some (lessOf a b) := by
  unfold order_Less.f lessOf
  rw [cmp_eq k a b h h' g g']
  simp only [Option.bind_some]
  unfold cmpOf
  have e := cmp3_cases (rankOf a) (rankOf b)
  by_cases h1 : kindOf a = 5
  · simp [h1]
  · by_cases h2 : kindOf b = 5
    · simp [h2]
    · simp [h1, h2]; omega
theorem OrderMost : gimballaw06_OrderMost.Pure := by
  intro a b wa wb
  obtain ⟨ha, ha'⟩ := U.wf_u64 wa
  obtain ⟨hb, hb'⟩ := U.wf_u64 wb
  refine ⟨10, ?_⟩
  unfold gimballaw06_OrderMost.f
  rw [head_eq, max_eq _ a b ha ha' hb hb', min_eq _ a b ha ha' hb hb', kind_eq _ a ha ha', kind_eq _ b hb hb']
  simp only [Option.bind_some, if_true]
  by_cases hn : kindOf a = 5 ∨ kindOf b = 5
  · rw [if_pos hn, if_pos hn]
    have j : gimballaw06_OrderMost.j0 10 a b 9221120237041090560 (sigs a b) 9221120237041090560 (sigs a b) true = some true := by
      simp only [gimballaw06_OrderMost.j0, gimballaw06_OrderMost.j1]
      rw [signals_eq _ a ha ha', signals_eq _ b hb hb']
      simp only [Option.bind_some, if_true]
      unfold sigs
      by_cases s1 : kindOf a = 5 ∧ a % 4503599627370496 < 2251799813685248
      · simp [s1]
      · by_cases s2 : kindOf b = 5 ∧ b % 4503599627370496 < 2251799813685248
        · simp [s1, s2]
        · have e1 : decide (kindOf a = 5 ∧ a % 4503599627370496 < 2251799813685248) = false := decide_eq_false s1
          have e2 : decide (kindOf b = 5 ∧ b % 4503599627370496 < 2251799813685248) = false := decide_eq_false s2
          have e3 : ¬ ((kindOf a = 5 ∧ a % 4503599627370496 < 2251799813685248) ∨ (kindOf b = 5 ∧ b % 4503599627370496 < 2251799813685248)) := fun o => o.elim s1 s2
          rw [e1, e2, if_neg e3]; simp
    by_cases h1 : kindOf a = 5
    · rw [if_pos h1]; exact j
    · rw [if_neg h1]
      have h2 : kindOf b = 5 := by omega
      rw [h2]; exact j
  · rw [if_neg hn, if_neg hn]
    have h1 : ¬ kindOf a = 5 := by omega
    have h2 : ¬ kindOf b = 5 := by omega
    have e : (kindOf b == 5) = false := by simpa using h2
    rw [if_neg h1, e]
    simp only [gimballaw06_OrderMost.j0, Bool.false_eq_true, if_false]
    have inj : keyOf a = keyOf b ↔ a = b := by
      unfold keyOf; repeat (any_goals split)
      all_goals omega
    have mono : ∀ x y, 0 ≤ x → 0 ≤ y → keyOf x ≤ keyOf y → lessOf y x = false := by
      intro x y hx hy hk
      unfold lessOf
      apply decide_eq_false
      rintro ⟨-, -, hr⟩
      unfold keyOf at hk; unfold rankOf at hr
      repeat (any_goals split at *)
      all_goals omega
    unfold maxOf minOf
    by_cases c : keyOf a < keyOf b
    · have c' : ¬ keyOf b < keyOf a := by omega
      rw [if_pos c, if_neg c']
      rw [less_eq _ b a hb hb' ha ha', total_eq _ a b ha ha' hb hb', mono a b ha hb (by omega)]
      have ec := cmp3_cases (keyOf a) (keyOf b)
      have : cmp3 (keyOf a) (keyOf b) ≤ 0 := by omega
      by_cases hab : b = a
      · simp [hab]
        subst hab; omega
      · simp [hab, this]
    · rw [if_neg c]
      by_cases c2 : keyOf b < keyOf a
      · rw [if_pos c2]
        rw [less_eq _ a b ha ha' hb hb', total_eq _ b a hb hb' ha ha', mono b a hb ha (by omega)]
        have ec := cmp3_cases (keyOf b) (keyOf a)
        have : cmp3 (keyOf b) (keyOf a) ≤ 0 := by omega
        simp [this]
      · have hab : a = b := inj.1 (by omega)
        subst hab
        rw [if_neg c2]
        rw [less_eq _ a a ha ha' ha ha', total_eq _ a a ha ha' ha ha', mono a a ha ha (by omega)]
        have ec := cmp3_cases (keyOf a) (keyOf a)
        have : cmp3 (keyOf a) (keyOf a) ≤ 0 := by omega
        simp [this]
end Go.Proofs.Ytlnpcbhbcmhbkaa.Pure
