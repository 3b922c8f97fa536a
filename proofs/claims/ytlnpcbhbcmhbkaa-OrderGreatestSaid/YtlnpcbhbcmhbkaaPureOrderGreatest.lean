/- The law OrderGreatest of layer 6: of every list of patterns the greatest without their signs and its place; no condition beyond the list's own bounds. -/
import Derived.Test.YtlnpcbhbcmhbkaaPOrderGreatestx2
import Derived.Test.YtlnpcbhbcmhbkaaWSized
import Derived.Test.YtlnpcbhbcmhbkaaU
set_option linter.unusedSimpArgs false
set_option linter.unusedVariables false
namespace Go.Proofs.Ytlnpcbhbcmhbkaa.Pure
open Go.RowKit Go.Proofs.Ytlnpcbhbcmhbkaa Go.Proofs.Ytlnpcbhbcmhbkaa.POrderGreatest Go.Proofs.YtlnpcbhbcmhbkaaW.PrintWords Go.Proofs.YtlnpcbhbcmhbkaaW.PrintLast
def kindOf (a : Int) : Int :=
  if a / 4503599627370496 % 2048 = 0 then (if a % 4503599627370496 = 0 then 1 else 2)
  else if a / 4503599627370496 % 2048 < 2047 then 3 else if a % 4503599627370496 = 0 then 4 else 5
theorem neg_eq (a : Int) (h : 0 ≤ a) (h' : a < 18446744073709551616) : word_Neg.f a = some (decide (9223372036854775808 ≤ a)) := by
  unfold word_Neg.f
  congr 1
  by_cases h1 : 9223372036854775808 ≤ a
  · have : a / 9223372036854775808 = 1 := by omega
    simp [h1, this]
  · have : a / 9223372036854775808 = 0 := by omega
    simp [h1, this]
theorem exp_eq (a : Int) (h : 0 ≤ a) (h' : a < 18446744073709551616) : word_Exp.f a = some (a / 4503599627370496 % 2048) := by
  unfold word_Exp.f
  rw [U.and_2047 (by omega) (by omega), U.wrap64_id (by omega) (by omega)]
theorem frac_eq (a : Int) (h : 0 ≤ a) (h' : a < 18446744073709551616) : word_Frac.f a = some (a % 4503599627370496) := by
  unfold word_Frac.f
  rw [U.and_52 h h']
theorem kind_eq (k : Nat) (a : Int) (h : 0 ≤ a) (h' : a < 18446744073709551616) : word_Kind.f (k + 1) a = some (kindOf a) := by
  unfold word_Kind.f
  rw [exp_eq a h h', frac_eq a h h']
  simp only [Option.bind_some, word_Kind.j0, kindOf]
  by_cases h1 : a / 4503599627370496 % 2048 = 0
  · by_cases h2 : a % 4503599627370496 = 0 <;> simp [h1, h2]
  · simp [h1]
    repeat (any_goals split)
    all_goals simp
theorem abs_eq (a : Int) (h : 0 ≤ a) (h' : a < 18446744073709551616) : word_Abs.f a = some (a % 9223372036854775808) := by
  unfold word_Abs.f
  rw [U.andNot_63 h h']
theorem signals_eq (k : Nat) (a : Int) (h : 0 ≤ a) (h' : a < 18446744073709551616) : word_Signals.f (k + 1) a = some (decide (kindOf a = 5 ∧ a % 4503599627370496 < 2251799813685248)) := by
  unfold word_Signals.f
  rw [kind_eq k a h h']
  simp only [Option.bind_some]
  rw [U.and_1 (by omega) (by omega)]
  by_cases h1 : kindOf a = 5
  · rw [if_pos h1]
    by_cases h2 : a % 4503599627370496 < 2251799813685248
    · have : a / 2251799813685248 % 2 = 0 := by omega
      simp [h1, h2, this]
    · have : a / 2251799813685248 % 2 = 1 := by omega
      simp [h1, h2, this]
  · simp [h1]
def cmp3 (x y : Int) : Int := if x < y then -1 else if x > y then 1 else 0
theorem cmp3_cases (x y : Int) : (cmp3 x y = -1 ∧ x < y) ∨ (cmp3 x y = 1 ∧ y < x) ∨ (cmp3 x y = 0 ∧ x = y) := by
  unfold cmp3; repeat (any_goals split)
  all_goals omega
def rankOf (a : Int) : Int := if 9223372036854775808 ≤ a then 9223372036854775808 - a else a
def keyOf (a : Int) : Int := if 9223372036854775808 ≤ a then 9223372036854775807 - a else a
theorem rank_eq (a : Int) (h : 0 ≤ a) (h' : a < 18446744073709551616) : order_rank.f a = some (rankOf a) := by
  unfold order_rank.f rankOf
  rw [neg_eq a h h', abs_eq a h h']
  simp only [Option.bind_some]
  by_cases h1 : 9223372036854775808 ≤ a
  · have e : wrap64 (-(wrap64 (a % 9223372036854775808))) = 9223372036854775808 - a := by
      rw [U.wrap64_id (a := a % 9223372036854775808) (by omega) (by omega), U.wrap64_id (by omega) (by omega)]; omega
    rw [e]; simp [h1]
  · rw [U.wrap64_id (a := a) (by omega) (by omega)]; simp [h1]
def cmpOf (a b : Int) : Int × Bool := if kindOf a = 5 ∨ kindOf b = 5 then (0, false) else (cmp3 (rankOf a) (rankOf b), true)
theorem cmp_eq (k : Nat) (a b : Int) (h : 0 ≤ a) (h' : a < 18446744073709551616) (g : 0 ≤ b) (g' : b < 18446744073709551616) : order_Cmp.f (k + 1) a b = some (cmpOf a b) := by
  unfold order_Cmp.f cmpOf
  rw [kind_eq k a h h', kind_eq k b g g']
  simp only [Option.bind_some, order_Cmp.j0]
  rw [rank_eq a h h', rank_eq b g g']
  simp only [Option.bind_some]
  by_cases h1 : kindOf a = 5
  · simp [h1]
  · by_cases h2 : kindOf b = 5
    · simp [h1, h2]
    · simp only [h1, h2, cmp3]
      by_cases c1 : rankOf a < rankOf b
      · simp [c1, h2]
      · by_cases c2 : rankOf a > rankOf b
        · simp [c1, c2, h2]
        · simp [c1, c2, h2]
theorem total_eq (k : Nat) (a b : Int) (h : 0 ≤ a) (h' : a < 18446744073709551616) (g : 0 ≤ b) (g' : b < 18446744073709551616) : order_Total.f (k + 2) a b = some (cmp3 (keyOf a) (keyOf b)) := by
  have ea : 9223372036854775808 ≤ a → wrap64 a = a - 18446744073709551616 := fun _ => by unfold wrap64; omega
  have eb : 9223372036854775808 ≤ b → wrap64 b = b - 18446744073709551616 := fun _ => by unfold wrap64; omega
  have ea' : ¬ 9223372036854775808 ≤ a → wrap64 a = a := fun _ => U.wrap64_id (by omega) (by omega)
  have eb' : ¬ 9223372036854775808 ≤ b → wrap64 b = b := fun _ => U.wrap64_id (by omega) (by omega)
  have fin : ∀ x y, order_Total.j1 (k + 1) x y = some (cmp3 x y) := by
    intro x y
    simp only [order_Total.j1, cmp3]
    by_cases c1 : x < y
    · rw [if_pos c1, if_pos c1]
    · rw [if_neg c1, if_neg c1]
      by_cases c2 : x > y
      · rw [if_pos c2, if_pos c2]
      · rw [if_neg c2, if_neg c2]
  have fin0 : ∀ x, order_Total.j0 (k + 2) x (wrap64 b) = some (cmp3 x (keyOf b)) := by
    intro x
    simp only [order_Total.j0]
    unfold keyOf
    by_cases h2 : 9223372036854775808 ≤ b
    · have e := eb h2
      rw [e, if_pos (by omega), if_pos h2, fin, U.xor_low63 (by omega) (by omega)]
      congr 2; omega
    · have e := eb' h2
      rw [e, if_neg (by omega), if_neg h2, fin]
  unfold order_Total.f
  rw [fin0, fin0]
  by_cases h1 : 9223372036854775808 ≤ a
  · have e := ea h1
    rw [e, if_pos (by omega), U.xor_low63 (by omega) (by omega)]
    unfold keyOf
    rw [if_pos h1]
    congr 2; omega
  · have e := ea' h1
    rw [e, if_neg (by omega)]
    have : keyOf a = a := by unfold keyOf; rw [if_neg h1]
    rw [this]
theorem cmp3_eq (x y : Int) (f : Bool) : (if x < y then some ((-1 : Int), f) else if x > y then some (1, f) else some (0, f)) = some (cmp3 x y, f) := by
  unfold cmp3; repeat (any_goals split)
  all_goals rfl
theorem nan_eq (k : Nat) (a b : Int) (h : 0 ≤ a) (h' : a < 18446744073709551616) (g : 0 ≤ b) (g' : b < 18446744073709551616) :
    order_nan.f (k + 2) a b = some (if (kindOf a = 5 ∧ a % 4503599627370496 < 2251799813685248) ∨ (kindOf b = 5 ∧ b % 4503599627370496 < 2251799813685248) then (16, true) else (0, decide (kindOf a = 5 ∨ kindOf b = 5))) := by
  unfold order_nan.f
  rw [signals_eq _ a h h', signals_eq _ b g g']
  simp only [Option.bind_some, order_nan.j0]
  rw [kind_eq _ a h h', kind_eq _ b g g']
  simp only [Option.bind_some]
  by_cases h1 : kindOf a = 5 ∧ a % 4503599627370496 < 2251799813685248
  · simp [h1]
  · by_cases h2 : kindOf b = 5 ∧ b % 4503599627370496 < 2251799813685248
    · simp [h1, h2]
    · have e1 : decide (kindOf a = 5 ∧ a % 4503599627370496 < 2251799813685248) = false := decide_eq_false h1
      have e2 : decide (kindOf b = 5 ∧ b % 4503599627370496 < 2251799813685248) = false := decide_eq_false h2
      have e3 : ¬ ((kindOf a = 5 ∧ a % 4503599627370496 < 2251799813685248) ∨ (kindOf b = 5 ∧ b % 4503599627370496 < 2251799813685248)) := fun o => o.elim h1 h2
      rw [e1, e2, if_neg e3]
      by_cases c1 : kindOf a = 5
      · simp [c1]
      · by_cases c2 : kindOf b = 5
        · simp [c1, c2]
        · simp [c1, c2]
theorem by_eq (c a b : Int) : order_by_uint64.f c a b = some (if c < 0 then b else a) := by
  unfold order_by_uint64.f; split <;> rfl
def maxOf (a b : Int) : Int := if keyOf a < keyOf b then b else a
def minOf (a b : Int) : Int := if keyOf b < keyOf a then b else a
def sigs (a b : Int) : Int := if (kindOf a = 5 ∧ a % 4503599627370496 < 2251799813685248) ∨ (kindOf b = 5 ∧ b % 4503599627370496 < 2251799813685248) then 16 else 0
theorem max_eq (k : Nat) (a b : Int) (h : 0 ≤ a) (h' : a < 18446744073709551616) (g : 0 ≤ b) (g' : b < 18446744073709551616) :
    order_Max.f (k + 2) a b = some (if kindOf a = 5 ∨ kindOf b = 5 then (9221120237041090560, sigs a b) else (maxOf a b, 0)) := by
  unfold order_Max.f
  rw [nan_eq _ a b h h' g g', total_eq _ a b h h' g g']
  simp only [Option.bind_some, by_eq]
  unfold sigs maxOf
  by_cases h1 : (kindOf a = 5 ∧ a % 4503599627370496 < 2251799813685248) ∨ (kindOf b = 5 ∧ b % 4503599627370496 < 2251799813685248)
  · have h2 : kindOf a = 5 ∨ kindOf b = 5 := h1.imp (fun x => x.1) (fun x => x.1)
    rw [if_pos h1, if_pos h2, if_pos h1]; rfl
  · rw [if_neg h1, if_neg h1]
    by_cases h2 : kindOf a = 5 ∨ kindOf b = 5
    · rw [if_pos h2]; simp [h2]
    · rw [if_neg h2]
      have e := cmp3_cases (keyOf a) (keyOf b)
      simp only [h2, decide_false, Bool.false_eq_true, if_false]
      by_cases c : keyOf a < keyOf b
      · rw [if_pos c, if_pos (by omega)]
      · rw [if_neg c, if_neg (by omega)]
theorem head_eq (k : Nat) : gimballaw06_head.f (k + 2) = some true := by
  unfold gimballaw06_head.f
  rw [max_eq k _ _ (by decide) (by decide) (by decide) (by decide), cmp_eq (k + 1) _ _ (by decide) (by decide) (by decide) (by decide)]
  simp [kindOf, cmpOf, maxOf, keyOf, rankOf, cmp3]
theorem rd_mem (l : List Int) (i : Int) (h : 0 ≤ i) (h' : i < (l.length : Int)) : rd l i ∈ l := by
  unfold rd
  have hi : i.toNat < l.length := by omega
  rw [List.getD_eq_getElem?_getD, List.getElem?_eq_getElem hi, Option.getD_some]
  exact List.getElem_mem hi
theorem rd_u64 (l : List Int) (hl : ∀ x ∈ l, (Lit.int .u64 x).wf = true) (i : Int) (h : 0 ≤ i) (h' : i < (l.length : Int)) : 0 ≤ rd l i ∧ rd l i < 18446744073709551616 :=
  U.wf_u64 (hl _ (rd_mem l i h h'))
def GInv (l : List Int) (i best at_ : Int) : Prop :=
  ((i = 0 ∧ best = 0 ∧ at_ = -1) ∨ (0 ≤ at_ ∧ at_ < i ∧ best = rd l at_ % 9223372036854775808)) ∧
  ∀ j, 0 ≤ j → j < i → rd l j % 9223372036854775808 ≤ best ∧ (j < at_ → rd l j % 9223372036854775808 < best)
theorem greatest_spec (l : List Int) (hl : ∀ x ∈ l, (Lit.int .u64 x).wf = true) (hn : l.length ≤ 1000) (d : Nat) : ∀ (k : Nat) (i best at_ : Int), 0 ≤ i → (l.length : Int) - i = d → d + 1 < k → GInv l i best at_ →
    ∃ b p, order_Greatest.l0 k best at_ l (l.length : Int) i = some (b, p) ∧
      ((∃ j, i ≤ j ∧ j < (l.length : Int) ∧ kindOf (rd l j) = 5 ∧ (∀ j', i ≤ j' → j' < j → kindOf (rd l j') ≠ 5) ∧ b = 9221120237041090560 ∧ p = j) ∨
       ((∀ j', i ≤ j' → j' < (l.length : Int) → kindOf (rd l j') ≠ 5) ∧ GInv l l.length b p)) := by
  induction d with
  | zero =>
    intro k i best at_ h0 hd hk inv
    obtain ⟨k, rfl⟩ : ∃ m, k = m + 1 := ⟨k - 1, by omega⟩
    refine ⟨best, at_, ?_, Or.inr ⟨fun j' _ _ => by omega, ?_⟩⟩
    · simp only [order_Greatest.l0]; rw [if_neg (by omega)]
    · have : i = (l.length : Int) := by omega
      rw [← this]; exact inv
  | succ d ih =>
    intro k i best at_ h0 hd hk inv
    obtain ⟨k, rfl⟩ : ∃ m, k = m + 2 := ⟨k - 2, by omega⟩
    have hi : i < (l.length : Int) := by omega
    obtain ⟨w0, w1⟩ := rd_u64 l hl i h0 hi
    have hw : wrap64 (i + 1) = i + 1 := U.wrap64_id (by omega) (by omega)
    by_cases hk5 : kindOf (rd l i) = 5
    · refine ⟨9221120237041090560, i, ?_, Or.inl ⟨i, by omega, hi, hk5, fun j' _ _ => by omega, rfl, rfl⟩⟩
      simp only [order_Greatest.l0]
      rw [if_pos hi, if_pos h0, if_pos hi, kind_eq _ _ w0 w1, Option.bind_some, if_pos hk5]
    · have step : ∀ b p, GInv l (i + 1) b p → (order_Greatest.l0 (k + 2) best at_ l (l.length : Int) i = order_Greatest.l0 (k + 1) b p l (l.length : Int) (i + 1)) →
          ∃ b p, order_Greatest.l0 (k + 2) best at_ l (l.length : Int) i = some (b, p) ∧
      ((∃ j, i ≤ j ∧ j < (l.length : Int) ∧ kindOf (rd l j) = 5 ∧ (∀ j', i ≤ j' → j' < j → kindOf (rd l j') ≠ 5) ∧ b = 9221120237041090560 ∧ p = j) ∨
       ((∀ j', i ≤ j' → j' < (l.length : Int) → kindOf (rd l j') ≠ 5) ∧ GInv l l.length b p)) := by
        intro b p hinv heq
        obtain ⟨b', p', e, r⟩ := ih (k + 1) (i + 1) b p (by omega) (by omega) (by omega) hinv
        refine ⟨b', p', by rw [heq, e], ?_⟩
        rcases r with ⟨j, j1, j2, j3, j4, j5, j6⟩ | ⟨r1, r2⟩
        · refine Or.inl ⟨j, by omega, j2, j3, ?_, j5, j6⟩
          intro j' a1 a2
          by_cases hji : j' = i
          · subst hji; exact hk5
          · exact j4 j' (by omega) a2
        · refine Or.inr ⟨?_, r2⟩
          intro j' a1 a2
          by_cases hji : j' = i
          · subst hji; exact hk5
          · exact r1 j' (by omega) a2
      have hd1 : order_Greatest.l0 (k + 2) best at_ l (l.length : Int) i = (if at_ < 0 then order_Greatest.l0 (k + 1) (rd l i % 9223372036854775808) i l (l.length : Int) (i + 1) else if rd l i % 9223372036854775808 > best then order_Greatest.l0 (k + 1) (rd l i % 9223372036854775808) i l (l.length : Int) (i + 1) else order_Greatest.l0 (k + 1) best at_ l (l.length : Int) (i + 1)) := by
        rw [order_Greatest.l0]
        rw [if_pos hi, if_pos h0, if_pos hi, kind_eq _ _ w0 w1, Option.bind_some, if_neg hk5, abs_eq _ w0 w1, hw]
        simp only [Option.bind_some]
      obtain ⟨c, inv2⟩ := inv
      by_cases hat : at_ < 0
      · refine step _ _ ?_ (by rw [hd1, if_pos hat])
        rcases c with ⟨c1, c2, c3⟩ | ⟨c1, _⟩
        · refine ⟨Or.inr ⟨h0, by omega, rfl⟩, fun j a1 a2 => ?_⟩
          have : j = i := by omega
          subst this
          exact ⟨by omega, fun h => by omega⟩
        · omega
      · rcases c with ⟨c1, c2, c3⟩ | ⟨c1, c2, c3⟩
        · omega
        · by_cases hb : rd l i % 9223372036854775808 > best
          · refine step _ _ ?_ (by rw [hd1, if_neg hat, if_pos hb])
            refine ⟨Or.inr ⟨h0, by omega, rfl⟩, fun j a1 a2 => ?_⟩
            by_cases hji : j = i
            · subst hji; exact ⟨by omega, fun h => by omega⟩
            · have := inv2 j a1 (by omega)
              exact ⟨by omega, fun _ => by omega⟩
          · refine step _ _ ?_ (by rw [hd1, if_neg hat, if_neg hb])
            refine ⟨Or.inr ⟨c1, by omega, c3⟩, fun j a1 a2 => ?_⟩
            by_cases hji : j = i
            · subst hji; exact ⟨by omega, fun h => by omega⟩
            · exact inv2 j a1 (by omega)
theorem l1_spec (l : List Int) (hl : ∀ x ∈ l, (Lit.int .u64 x).wf = true) (hn : l.length ≤ 1000) (b p : Int) (inv : GInv l l.length b p) (d : Nat) : ∀ (k : Nat) (i : Int), 0 ≤ i → (l.length : Int) - i = d → d < k →
    gimballaw06_OrderGreatest.l1 k b p l (l.length : Int) i = some true := by
  induction d with
  | zero =>
    intro k i h0 hd hk
    obtain ⟨k, rfl⟩ : ∃ m, k = m + 1 := ⟨k - 1, by omega⟩
    rw [gimballaw06_OrderGreatest.l1, if_neg (by omega)]
  | succ d ih =>
    intro k i h0 hd hk
    obtain ⟨k, rfl⟩ : ∃ m, k = m + 1 := ⟨k - 1, by omega⟩
    have hi : i < (l.length : Int) := by omega
    obtain ⟨w0, w1⟩ := rd_u64 l hl i h0 hi
    have hw : wrap64 (i + 1) = i + 1 := U.wrap64_id (by omega) (by omega)
    have hv := inv.2 i h0 hi
    rw [gimballaw06_OrderGreatest.l1, if_pos hi, if_pos h0, if_pos hi, abs_eq _ w0 w1]
    simp only [Option.bind_some]
    rw [if_neg (by omega), hw, ih k (i + 1) (by omega) (by omega) (by omega)]
    by_cases hp : i < p
    · have := hv.2 hp
      rw [if_pos hp, if_neg (by omega)]
    · rw [if_neg hp]
theorem l0_spec (l : List Int) (hl : ∀ x ∈ l, (Lit.int .u64 x).wf = true) (hn : l.length ≤ 1000) (h1 : 0 < l.length) (b p : Int)
    (r : (∃ j, 0 ≤ j ∧ j < (l.length : Int) ∧ kindOf (rd l j) = 5 ∧ (∀ j', 0 ≤ j' → j' < j → kindOf (rd l j') ≠ 5) ∧ b = 9221120237041090560 ∧ p = j) ∨
       ((∀ j', 0 ≤ j' → j' < (l.length : Int) → kindOf (rd l j') ≠ 5) ∧ GInv l l.length b p)) (d : Nat) :
    ∀ (k : Nat) (i : Int), 0 ≤ i → (l.length : Int) - i = d → d + l.length + 5 < k → (∀ j, 0 ≤ j → j < i → kindOf (rd l j) ≠ 5) →
    gimballaw06_OrderGreatest.l0 k l b p l (l.length : Int) i = some true := by
  induction d with
  | zero =>
    intro k i h0 hd hk hj
    obtain ⟨k, rfl⟩ : ∃ m, k = m + 3 := ⟨k - 3, by omega⟩
    rcases r with ⟨j, j1, j2, j3, _⟩ | ⟨r1, inv⟩
    · exact absurd j3 (hj j j1 (by omega))
    · have c := inv.1
      have hp : 0 ≤ p ∧ p < (l.length : Int) ∧ b = rd l p % 9223372036854775808 := by omega
      obtain ⟨p0, p1, p2⟩ := hp
      obtain ⟨w0, w1⟩ := rd_u64 l hl p p0 p1
      rw [gimballaw06_OrderGreatest.l0, if_neg (by omega), if_neg (by omega), if_neg (by omega), if_pos p0, if_pos p1, abs_eq _ w0 w1, Option.bind_some]
      rw [gimballaw06_OrderGreatest.j1, if_neg (by simp [p2])]
      exact l1_spec l hl hn b p inv l.length _ 0 (by omega) (by omega) (by omega)
  | succ d ih =>
    intro k i h0 hd hk hj
    obtain ⟨k, rfl⟩ : ∃ m, k = m + 2 := ⟨k - 2, by omega⟩
    have hi : i < (l.length : Int) := by omega
    obtain ⟨w0, w1⟩ := rd_u64 l hl i h0 hi
    have hw : wrap64 (i + 1) = i + 1 := U.wrap64_id (by omega) (by omega)
    rw [gimballaw06_OrderGreatest.l0, if_pos hi, if_pos h0, if_pos hi, kind_eq _ _ w0 w1]
    simp only [Option.bind_some]
    by_cases h5 : kindOf (rd l i) = 5
    · rw [if_pos h5]
      rcases r with ⟨j, j1, j2, j3, j4, j5, j6⟩ | ⟨r1, _⟩
      · have : j = i := by
          by_cases c1 : j < i
          · exact absurd j3 (hj j j1 c1)
          · by_cases c2 : i < j
            · exact absurd h5 (j4 i h0 c2)
            · omega
        rw [if_pos j5, j6, this]; simp
      · exact absurd h5 (r1 i h0 hi)
    · rw [if_neg h5, hw]
      refine ih (k + 1) (i + 1) (by omega) (by omega) (by omega) ?_
      intro j a1 a2
      by_cases hji : j = i
      · subst hji; exact h5
      · exact hj j a1 (by omega)
theorem OrderGreatest : gimballaw06_OrderGreatest.Pure := by
  intro l hm hb hl
  refine ⟨200, ?_⟩
  unfold gimballaw06_OrderGreatest.f
  rw [head_eq, Option.bind_some, if_pos rfl]
  by_cases h60 : (l.length : Int) > 60
  · rw [if_pos h60]
  · rw [if_neg h60]
    have inv0 : GInv l 0 0 (-1) := ⟨Or.inl ⟨rfl, rfl, rfl⟩, fun j _ _ => by omega⟩
    obtain ⟨b, p, e, r⟩ := greatest_spec l hl (by omega) l.length 200 0 0 (-1) (by omega) (by omega) (by omega) inv0
    unfold order_Greatest.f
    rw [e, Option.bind_some]
    by_cases hz : (l.length : Int) = 0
    · rw [if_pos hz]
      rcases r with ⟨j, j1, j2, _⟩ | ⟨_, inv⟩
      · omega
      · have c := inv.1
        have c1 : b = 0 := by omega
        have c2 : p = -1 := by omega
        simp [c1, c2]
    · rw [if_neg hz]
      exact l0_spec l hl (by omega) (by omega) b p r l.length 200 0 (by omega) (by omega) (by omega) (fun j _ _ => by omega)
end Go.Proofs.Ytlnpcbhbcmhbkaa.Pure
namespace Go.Proofs.Ytlnpcbhbcmhbkaa.PrintWords
theorem sized_ints : type_of% @Go.Proofs.YtlnpcbhbcmhbkaaW.PrintWords.sized_ints := @Go.Proofs.YtlnpcbhbcmhbkaaW.PrintWords.sized_ints
end Go.Proofs.Ytlnpcbhbcmhbkaa.PrintWords
