/- The law OrderCmps of layer 6: any two patterns held against each other are in the order of what they stand for; no condition beyond the words' own range. -/
import Derived.Test.YtlnpcbhbcmhbkaaQOrderCmpsx4
import Derived.Test.YtlnpcbhbcmhbkaaU
import Derived.Test.YtlnpcbhbcmhbkaaUB
set_option linter.unusedSimpArgs false
set_option linter.unusedVariables false
set_option exponentiation.threshold 5000
namespace Go.Proofs.Ytlnpcbhbcmhbkaa.Pure
open Go.RowKit Go.Proofs.Ytlnpcbhbcmhbkaa Go.Proofs.Ytlnpcbhbcmhbkaa.QOrderCmps Go.Proofs.YtlnpcbhbcmhbkaaW.PrintWords Go.Proofs.YtlnpcbhbcmhbkaaW.PrintLast
def kindOf (a : Int) : Int :=
  if a / 4503599627370496 % 2048 = 0 then (if a % 4503599627370496 = 0 then 1 else 2)
  else if a / 4503599627370496 % 2048 < 2047 then 3 else if a % 4503599627370496 = 0 then 4 else 5
theorem neg_eq (a : Int) (h : 0 ≤ a) (h' : a < 18446744073709551616) : word_Neg.f a = some (decide (9223372036854775808 ≤ a)) := by
  unfold word_Neg.f
  congr 1
  by_cases h1 : 9223372036854775808 ≤ a
  · have : a / 9223372036854775808 = 1 := by omega
    simp [h1, this]
  · have : a / 9223372036854775808 = 0 := by omega
    simp [h1, this]
theorem exp_eq (a : Int) (h : 0 ≤ a) (h' : a < 18446744073709551616) : word_Exp.f a = some (a / 4503599627370496 % 2048) := by
  unfold word_Exp.f
  rw [U.and_2047 (by omega) (by omega), U.wrap64_id (by omega) (by omega)]
theorem frac_eq (a : Int) (h : 0 ≤ a) (h' : a < 18446744073709551616) : word_Frac.f a = some (a % 4503599627370496) := by
  unfold word_Frac.f
  rw [U.and_52 h h']
theorem kind_eq (k : Nat) (a : Int) (h : 0 ≤ a) (h' : a < 18446744073709551616) : word_Kind.f (k + 1) a = some (kindOf a) := by
  unfold word_Kind.f
  rw [exp_eq a h h', frac_eq a h h']
  simp only [Option.bind_some, word_Kind.j0, kindOf]
  by_cases h1 : a / 4503599627370496 % 2048 = 0
  · by_cases h2 : a % 4503599627370496 = 0 <;> simp [h1, h2]
  · simp [h1]
    repeat (any_goals split)
    all_goals simp
theorem abs_eq (a : Int) (h : 0 ≤ a) (h' : a < 18446744073709551616) : word_Abs.f a = some (a % 9223372036854775808) := by
  unfold word_Abs.f
  rw [U.andNot_63 h h']
theorem signals_eq (k : Nat) (a : Int) (h : 0 ≤ a) (h' : a < 18446744073709551616) : word_Signals.f (k + 1) a = some (decide (kindOf a = 5 ∧ a % 4503599627370496 < 2251799813685248)) := by
  unfold word_Signals.f
  rw [kind_eq k a h h']
  simp only [Option.bind_some]
  rw [U.and_1 (by omega) (by omega)]
  by_cases h1 : kindOf a = 5
  · rw [if_pos h1]
    by_cases h2 : a % 4503599627370496 < 2251799813685248
    · have : a / 2251799813685248 % 2 = 0 := by omega
      simp [h1, h2, this]
    · have : a / 2251799813685248 % 2 = 1 := by omega
      simp [h1, h2, this]
  · simp [h1]
def cmp3 (x y : Int) : Int := if x < y then -1 else if x > y then 1 else 0
theorem cmp3_cases (x y : Int) : (cmp3 x y = -1 ∧ x < y) ∨ (cmp3 x y = 1 ∧ y < x) ∨ (cmp3 x y = 0 ∧ x = y) := by
  unfold cmp3; repeat (any_goals split)
  all_goals omega
def rankOf (a : Int) : Int := if 9223372036854775808 ≤ a then 9223372036854775808 - a else a
def keyOf (a : Int) : Int := if 9223372036854775808 ≤ a then 9223372036854775807 - a else a
theorem rank_eq (a : Int) (h : 0 ≤ a) (h' : a < 18446744073709551616) : order_rank.f a = some (rankOf a) := by
  unfold order_rank.f rankOf
  rw [neg_eq a h h', abs_eq a h h']
  simp only [Option.bind_some]
  by_cases h1 : 9223372036854775808 ≤ a
  · have e : wrap64 (-(wrap64 (a % 9223372036854775808))) = 9223372036854775808 - a := by
      rw [U.wrap64_id (a := a % 9223372036854775808) (by omega) (by omega), U.wrap64_id (by omega) (by omega)]; omega
    rw [e]; simp [h1]
  · rw [U.wrap64_id (a := a) (by omega) (by omega)]; simp [h1]
def cmpOf (a b : Int) : Int × Bool := if kindOf a = 5 ∨ kindOf b = 5 then (0, false) else (cmp3 (rankOf a) (rankOf b), true)
theorem cmp_eq (k : Nat) (a b : Int) (h : 0 ≤ a) (h' : a < 18446744073709551616) (g : 0 ≤ b) (g' : b < 18446744073709551616) : order_Cmp.f (k + 1) a b = some (cmpOf a b) := by
  unfold order_Cmp.f cmpOf
  rw [kind_eq k a h h', kind_eq k b g g']
  simp only [Option.bind_some, order_Cmp.j0]
  rw [rank_eq a h h', rank_eq b g g']
  simp only [Option.bind_some]
  by_cases h1 : kindOf a = 5
  · simp [h1]
  · by_cases h2 : kindOf b = 5
    · simp [h1, h2]
    · simp only [h1, h2, cmp3]
      by_cases c1 : rankOf a < rankOf b
      · simp [c1, h2]
      · by_cases c2 : rankOf a > rankOf b
        · simp [c1, c2, h2]
        · simp [c1, c2, h2]
theorem total_eq (k : Nat) (a b : Int) (h : 0 ≤ a) (h' : a < 18446744073709551616) (g : 0 ≤ b) (g' : b < 18446744073709551616) : order_Total.f (k + 2) a b = some (cmp3 (keyOf a) (keyOf b)) := by
  have ea : 9223372036854775808 ≤ a → wrap64 a = a - 18446744073709551616 := fun _ => by unfold wrap64; omega
  have eb : 9223372036854775808 ≤ b → wrap64 b = b - 18446744073709551616 := fun _ => by unfold wrap64; omega
  have ea' : ¬ 9223372036854775808 ≤ a → wrap64 a = a := fun _ => U.wrap64_id (by omega) (by omega)
  have eb' : ¬ 9223372036854775808 ≤ b → wrap64 b = b := fun _ => U.wrap64_id (by omega) (by omega)
  have fin : ∀ x y, order_Total.j1 (k + 1) x y = some (cmp3 x y) := by
    intro x y
    simp only [order_Total.j1, cmp3]
    by_cases c1 : x < y
    · rw [if_pos c1, if_pos c1]
    · rw [if_neg c1, if_neg c1]
      by_cases c2 : x > y
      · rw [if_pos c2, if_pos c2]
      · rw [if_neg c2, if_neg c2]
  have fin0 : ∀ x, order_Total.j0 (k + 2) x (wrap64 b) = some (cmp3 x (keyOf b)) := by
    intro x
    simp only [order_Total.j0]
    unfold keyOf
    by_cases h2 : 9223372036854775808 ≤ b
    · have e := eb h2
      rw [e, if_pos (by omega), if_pos h2, fin, U.xor_low63 (by omega) (by omega)]
      congr 2; omega
    · have e := eb' h2
      rw [e, if_neg (by omega), if_neg h2, fin]
  unfold order_Total.f
  rw [fin0, fin0]
  by_cases h1 : 9223372036854775808 ≤ a
  · have e := ea h1
    rw [e, if_pos (by omega), U.xor_low63 (by omega) (by omega)]
    unfold keyOf
    rw [if_pos h1]
    congr 2; omega
  · have e := ea' h1
    rw [e, if_neg (by omega)]
    have : keyOf a = a := by unfold keyOf; rw [if_neg h1]
    rw [this]
theorem cmp3_eq (x y : Int) (f : Bool) : (if x < y then some ((-1 : Int), f) else if x > y then some (1, f) else some (0, f)) = some (cmp3 x y, f) := by
  unfold cmp3; repeat (any_goals split)
  all_goals rfl
theorem nan_eq (k : Nat) (a b : Int) (h : 0 ≤ a) (h' : a < 18446744073709551616) (g : 0 ≤ b) (g' : b < 18446744073709551616) :
    order_nan.f (k + 2) a b = some (if (kindOf a = 5 ∧ a % 4503599627370496 < 2251799813685248) ∨ (kindOf b = 5 ∧ b % 4503599627370496 < 2251799813685248) then (16, true) else (0, decide (kindOf a = 5 ∨ kindOf b = 5))) := by
  unfold order_nan.f
  rw [signals_eq _ a h h', signals_eq _ b g g']
  simp only [Option.bind_some, order_nan.j0]
  rw [kind_eq _ a h h', kind_eq _ b g g']
  simp only [Option.bind_some]
  by_cases h1 : kindOf a = 5 ∧ a % 4503599627370496 < 2251799813685248
  · simp [h1]
  · by_cases h2 : kindOf b = 5 ∧ b % 4503599627370496 < 2251799813685248
    · simp [h1, h2]
    · have e1 : decide (kindOf a = 5 ∧ a % 4503599627370496 < 2251799813685248) = false := decide_eq_false h1
      have e2 : decide (kindOf b = 5 ∧ b % 4503599627370496 < 2251799813685248) = false := decide_eq_false h2
      have e3 : ¬ ((kindOf a = 5 ∧ a % 4503599627370496 < 2251799813685248) ∨ (kindOf b = 5 ∧ b % 4503599627370496 < 2251799813685248)) := fun o => o.elim h1 h2
      rw [e1, e2, if_neg e3]
      by_cases c1 : kindOf a = 5
      · simp [c1]
      · by_cases c2 : kindOf b = 5
        · simp [c1, c2]
        · simp [c1, c2]
theorem by_eq (c a b : Int) : order_by_uint64.f c a b = some (if c < 0 then b else a) := by
  unfold order_by_uint64.f; split <;> rfl
def maxOf (a b : Int) : Int := if keyOf a < keyOf b then b else a
def minOf (a b : Int) : Int := if keyOf b < keyOf a then b else a
def sigs (a b : Int) : Int := if (kindOf a = 5 ∧ a % 4503599627370496 < 2251799813685248) ∨ (kindOf b = 5 ∧ b % 4503599627370496 < 2251799813685248) then 16 else 0
theorem max_eq (k : Nat) (a b : Int) (h : 0 ≤ a) (h' : a < 18446744073709551616) (g : 0 ≤ b) (g' : b < 18446744073709551616) :
    order_Max.f (k + 2) a b = some (if kindOf a = 5 ∨ kindOf b = 5 then (9221120237041090560, sigs a b) else (maxOf a b, 0)) := by
  unfold order_Max.f
  rw [nan_eq _ a b h h' g g', total_eq _ a b h h' g g']
  simp only [Option.bind_some, by_eq]
  unfold sigs maxOf
  by_cases h1 : (kindOf a = 5 ∧ a % 4503599627370496 < 2251799813685248) ∨ (kindOf b = 5 ∧ b % 4503599627370496 < 2251799813685248)
  · have h2 : kindOf a = 5 ∨ kindOf b = 5 := h1.imp (fun x => x.1) (fun x => x.1)
    rw [if_pos h1, if_pos h2, if_pos h1]; rfl
  · rw [if_neg h1, if_neg h1]
    by_cases h2 : kindOf a = 5 ∨ kindOf b = 5
    · rw [if_pos h2]; simp [h2]
    · rw [if_neg h2]
      have e := cmp3_cases (keyOf a) (keyOf b)
      simp only [h2, decide_false, Bool.false_eq_true, if_false]
      by_cases c : keyOf a < keyOf b
      · rw [if_pos c, if_pos (by omega)]
      · rw [if_neg c, if_neg (by omega)]
theorem head_eq (k : Nat) : gimballaw06_head.f (k + 2) = some true := by
  unfold gimballaw06_head.f
  rw [max_eq k _ _ (by decide) (by decide) (by decide) (by decide), cmp_eq (k + 1) _ _ (by decide) (by decide) (by decide) (by decide)]
  simp [kindOf, cmpOf, maxOf, keyOf, rankOf, cmp3]
def lessOf (a b : Int) : Bool := decide (kindOf a ≠ 5 ∧ kindOf b ≠ 5 ∧ rankOf a < rankOf b)
theorem less_eq (k : Nat) (a b : Int) (h : 0 ≤ a) (h' : a < 18446744073709551616) (g : 0 ≤ b) (g' : b < 18446744073709551616) : order_Less.f (k + 1) a b = some (lessOf a b) := by
  unfold order_Less.f lessOf
  rw [cmp_eq k a b h h' g g']
  simp only [Option.bind_some]
  unfold cmpOf
  have e := cmp3_cases (rankOf a) (rankOf b)
  by_cases h1 : kindOf a = 5
  · simp [h1]
  · by_cases h2 : kindOf b = 5
    · simp [h2]
    · simp [h1, h2]; omega
def sameOf (a b : Int) : Bool := decide (kindOf a ≠ 5 ∧ kindOf b ≠ 5 ∧ rankOf a = rankOf b)
theorem same_eq (k : Nat) (a b : Int) (h : 0 ≤ a) (h' : a < 18446744073709551616) (g : 0 ≤ b) (g' : b < 18446744073709551616) : order_Same.f (k + 1) a b = some (sameOf a b) := by
  unfold order_Same.f sameOf
  rw [cmp_eq k a b h h' g g']
  simp only [Option.bind_some]
  unfold cmpOf
  have e := cmp3_cases (rankOf a) (rankOf b)
  by_cases h1 : kindOf a = 5
  · simp [h1]
  · by_cases h2 : kindOf b = 5
    · simp [h2]
    · simp [h1, h2]
      rw [Bool.eq_iff_iff]; simp; omega
theorem rd_nat (l : List Int) (n : Nat) : rd l (n : Int) = l.getD n 0 := by unfold rd; rw [Int.toNat_natCast]
theorem trim_l0 (l : List Int) (hb : U.isb l) (hn : l.length < 17592186044416) (n : Nat) : ∀ k, n ≤ l.length → n < k → gimbalref02_Trim.l0 k l (n : Int) = some (U.binl (U.val (l.take n))) := by
  induction n with
  | zero =>
    intro k _ hk
    obtain ⟨k, rfl⟩ : ∃ m, k = m + 1 := ⟨k - 1, by omega⟩
    rw [gimbalref02_Trim.l0, if_neg (by omega)]
    simp [U.val, U.binl_zero]
  | succ n ih =>
    intro k h hk
    obtain ⟨k, rfl⟩ : ∃ m, k = m + 1 := ⟨k - 1, by omega⟩
    have hw : wrap64 (((n + 1 : Nat) : Int) - 1) = (n : Int) := by rw [U.wrap64_id (by omega) (by omega)]; omega
    rw [gimbalref02_Trim.l0, if_pos (by omega), hw, if_pos (by omega), if_pos (by omega), rd_nat]
    rcases U.getD_isb hb n with h0 | h1
    · rw [if_pos h0, ih k (by omega) (by omega), U.val_take_succ (by omega), h0]
      simp
    · rw [if_neg (by rw [h1]; decide)]
      have e : (((n + 1 : Nat) : Int)).toNat = n + 1 := Int.toNat_natCast _
      have hlen : (l.take (n + 1)).length = n + 1 := by rw [List.length_take]; omega
      rw [Option.bind_some, if_pos (by omega), if_pos (by omega), e, if_pos (by simp [hlen]; omega), List.nil_append]
      congr 1
      refine (U.binl_val (U.isb_take hb _) (Or.inr ?_)).1.symm
      rw [List.take_succ_eq_append_getElem (by omega), List.getLast?_append]
      rw [List.getD_eq_getElem?_getD, List.getElem?_eq_getElem (by omega), Option.getD_some] at h1
      simp [h1]
theorem trim_eq (l : List Int) (hb : U.isb l) (hn : l.length < 17592186044416) (k : Nat) (hk : l.length < k) : gimbalref02_Trim.f k l = some (U.binl (U.val l)) := by
  unfold gimbalref02_Trim.f
  rw [trim_l0 l hb hn l.length k (Nat.le_refl _) hk, List.take_length]
theorem of_l0 (n : Nat) : ∀ (k : Nat) (acc : List Int), n < 18446744073709551616 → U.blen n < k → acc.length + U.blen n < 17592186044416 → gimbalref02_Of.l0 k (n : Int) acc = some (acc ++ U.binl n) := by
  induction n using Nat.strongRecOn with
  | ind n ih =>
    intro k acc hn hk hl
    obtain ⟨k, rfl⟩ : ∃ m, k = m + 1 := ⟨k - 1, by omega⟩
    by_cases h : n = 0
    · subst h
      rw [gimbalref02_Of.l0, if_neg (by decide), U.binl_zero, List.append_nil]
    · have hb := U.blen_pos h
      have e1 : IntKind.u64.wrap (Int.tdiv (n : Int) 2) = ((n / 2 : Nat) : Int) := by
        rw [U.tdiv_nn (by omega), U.wrap_u64_id (by omega) (by omega)]; omega
      have e2 : wrap64 (Int.tmod (n : Int) 2) = ((n % 2 : Nat) : Int) := by
        rw [U.tmod_nn (by omega), U.wrap64_id (by omega) (by omega)]; omega
      rw [gimbalref02_Of.l0, if_pos (by omega), if_pos (by omega), e1, e2, ih (n / 2) (by omega) k _ (by omega) (by omega) (by simp; omega), U.binl_pos h]
      simp
theorem of_eq (n : Nat) (hn : n < 18446744073709551616) (k : Nat) (hk : 65 < k) : gimbalref02_Of.f k (n : Int) = some (U.binl n) := by
  have := (U.blen_le 64 n).2 hn
  unfold gimbalref02_Of.f
  rw [of_l0 n k [] hn (by omega) (by simp; omega), List.nil_append]
theorem up_l0 (l : List Int) (hb : U.isb l) (n : Nat) (hs : n + l.length < 17592186044416) (d : Nat) : ∀ (k i : Nat), i + d = n → d + n + l.length + 1 < k →
    gimbalref02_Up.l0 k l (n : Int) (List.replicate i 0) (i : Int) = some (U.binl (U.val l * 2 ^ n)) := by
  induction d with
  | zero =>
    intro k i hi hk
    obtain ⟨k, rfl⟩ : ∃ m, k = m + 1 := ⟨k - 1, by omega⟩
    have e : i = n := by omega
    subst e
    rw [gimbalref02_Up.l0, if_neg (by omega), if_pos (by rw [List.length_replicate]; omega), trim_eq _ (U.isb_append (U.isb_replicate _) hb) (by simp; omega) k (by simp; omega), U.val_append, U.val_replicate, List.length_replicate, Option.bind_some, Nat.zero_add, Nat.mul_comm]
  | succ d ih =>
    intro k i hi hk
    obtain ⟨k, rfl⟩ : ∃ m, k = m + 1 := ⟨k - 1, by omega⟩
    have hw : wrap64 ((i : Int) + 1) = ((i + 1 : Nat) : Int) := by rw [U.wrap64_id (by omega) (by omega)]; omega
    have hr : List.replicate i (0 : Int) ++ [0] = List.replicate (i + 1) 0 := by rw [List.replicate_succ']
    rw [gimbalref02_Up.l0, if_pos (by omega), if_pos (by rw [List.length_replicate]; omega), hr, hw]
    exact ih k (i + 1) (by omega) (by omega)
theorem up_eq (l : List Int) (hb : U.isb l) (n : Nat) (hs : n + l.length < 17592186044416) (k : Nat) (hk : 2 * n + l.length + 1 < k) : gimbalref02_Up.f k l (n : Int) = some (U.binl (U.val l * 2 ^ n)) := by
  unfold gimbalref02_Up.f
  exact up_l0 l hb n hs n k 0 (by omega) (by omega)
theorem up_binl (a n : Nat) (hs : n + U.blen a < 17592186044416) (k : Nat) (hk : 2 * n + U.blen a + 1 < k) : gimbalref02_Up.f k (U.binl a) (n : Int) = some (U.binl (a * 2 ^ n)) := by
  rw [up_eq _ (U.isb_binl a) n hs k hk, U.val_binl]
theorem cmp_l0 (l m : List Int) (hl : U.isb l) (hm : U.isb m) (n : Nat) : ∀ (k : Nat), n ≤ l.length → n ≤ m.length → n < k → n < 9223372036854775808 → gimbalref02_Cmp.l0 k l m ((n : Int) - 1) = some (U.cmp3 (U.val (l.take n)) (U.val (m.take n))) := by
  induction n with
  | zero =>
    intro k _ _ hk _
    obtain ⟨k, rfl⟩ : ∃ m, k = m + 1 := ⟨k - 1, by omega⟩
    rw [gimbalref02_Cmp.l0, if_neg (by omega)]
    simp [U.val, U.cmp3]
  | succ n ih =>
    intro k h1 h2 hk hb
    obtain ⟨k, rfl⟩ : ∃ m, k = m + 1 := ⟨k - 1, by omega⟩
    have e : ((n + 1 : Nat) : Int) - 1 = (n : Int) := by omega
    have hw : wrap64 ((n : Int) - 1) = (n : Int) - 1 := U.wrap64_id (by omega) (by omega)
    have b1 := U.val_lt (U.isb_take hl n)
    have b2 := U.val_lt (U.isb_take hm n)
    rw [List.length_take, Nat.min_eq_left (by omega)] at b1 b2
    have c1 := U.val_take_succ (l := l) (n := n) (by omega)
    have c2 := U.val_take_succ (l := m) (n := n) (by omega)
    rw [gimbalref02_Cmp.l0, e, if_pos (by omega), if_pos (by omega), if_pos (by omega), if_pos (by omega), rd_nat, rd_nat, hw]
    have g1 := U.getD_isb hl n
    have g2 := U.getD_isb hm n
    by_cases hq : l.getD n 0 = m.getD n 0
    · rw [if_pos hq, ih k (by omega) (by omega) (by omega) (by omega), c1, c2, hq]
      unfold U.cmp3
      congr 1
      repeat (any_goals split)
      all_goals omega
    · rw [if_neg hq]
      by_cases hlt : l.getD n 0 < m.getD n 0
      · have x1 : l.getD n 0 = 0 := by omega
        have x2 : m.getD n 0 = 1 := by omega
        rw [if_pos hlt, c1, c2, x1, x2]
        have : U.cmp3 ((U.val (l.take n) + 2 ^ n * (0 : Int).toNat : Nat) : Int) ((U.val (m.take n) + 2 ^ n * (1 : Int).toNat : Nat) : Int) = -1 := by
          unfold U.cmp3
          have t0 : (0 : Int).toNat = 0 := rfl
          have t1 : (1 : Int).toNat = 1 := rfl
          rw [t0, t1, if_pos (by omega)]
        rw [this]
      · have x1 : l.getD n 0 = 1 := by omega
        have x2 : m.getD n 0 = 0 := by omega
        rw [if_neg hlt, c1, c2, x1, x2]
        have : U.cmp3 ((U.val (l.take n) + 2 ^ n * (1 : Int).toNat : Nat) : Int) ((U.val (m.take n) + 2 ^ n * (0 : Int).toNat : Nat) : Int) = 1 := by
          unfold U.cmp3
          have t0 : (0 : Int).toNat = 0 := rfl
          have t1 : (1 : Int).toNat = 1 := rfl
          rw [t0, t1, if_neg (by omega), if_pos (by omega)]
        rw [this]
theorem refcmp_eq (l m : List Int) (hl : U.isb l) (hm : U.isb m) (ql : l.length < 17592186044416) (qm : m.length < 17592186044416) (k : Nat) (hk : l.length < k) (hk2 : m.length < k) : gimbalref02_Cmp.f k l m = some (U.cmp3 (U.val l) (U.val m)) := by
  unfold gimbalref02_Cmp.f
  rw [trim_eq l hl ql k hk, trim_eq m hm qm k hk2]
  simp only [Option.bind_some]
  have b1 := (U.blen_le l.length (U.val l)).2 (U.val_lt hl)
  have b2 := (U.blen_le m.length (U.val m)).2 (U.val_lt hm)
  have d1 : (U.binl (U.val l)).length = U.blen (U.val l) := rfl
  have d2 : (U.binl (U.val m)).length = U.blen (U.val m) := rfl
  have m1 := fun h : U.val m ≤ U.val l => U.blen_mono h
  have m2 := fun h : U.val l ≤ U.val m => U.blen_mono h
  rw [d1, d2]
  by_cases he : (U.blen (U.val l) : Int) = (U.blen (U.val m) : Int)
  · have he' : U.blen (U.val l) = U.blen (U.val m) := by omega
    have c := cmp_l0 (U.binl (U.val l)) (U.binl (U.val m)) (U.isb_binl _) (U.isb_binl _) (U.blen (U.val l)) k (Nat.le_refl _) (by rw [d2, he']; exact Nat.le_refl _) (by omega) (by omega)
    rw [if_pos he, U.wrap64_id (by omega) (by omega), c]
    have t1 : (U.binl (U.val l)).take (U.blen (U.val l)) = U.binl (U.val l) := by rw [← d1, List.take_length]
    have t2 : (U.binl (U.val m)).take (U.blen (U.val l)) = U.binl (U.val m) := by rw [he', ← d2, List.take_length]
    rw [t1, t2, U.val_binl, U.val_binl]
  · rw [if_neg he]
    unfold U.cmp3
    by_cases hlt : (U.blen (U.val l) : Int) < (U.blen (U.val m) : Int)
    · rw [if_pos hlt, if_pos (by omega)]
    · rw [if_neg hlt, if_neg (by omega), if_pos (by omega)]
theorem refcmp_binl (a b : Nat) (ql : U.blen a < 17592186044416) (qm : U.blen b < 17592186044416) (k : Nat) (hk : U.blen a < k) (hk2 : U.blen b < k) : gimbalref02_Cmp.f k (U.binl a) (U.binl b) = some (U.cmp3 a b) := by
  rw [refcmp_eq _ _ (U.isb_binl a) (U.isb_binl b) ql qm k hk hk2, U.val_binl, U.val_binl]
theorem parts4_eq (a : Int) (h : 0 ≤ a) (h' : a < 18446744073709551616) : gimbalref04_Parts.f a = some (decide (9223372036854775808 ≤ a), a / 4503599627370496 % 2048, a % 4503599627370496) := by
  unfold gimbalref04_Parts.f
  rw [U.tdiv_nn h, U.tdiv_nn h, U.tmod_nn h, U.wrap_u64_id (by omega) (by omega), U.wrap_u64_id (by omega) (by omega), U.tmod_nn (by omega), U.wrap64_id (by omega) (by omega)]
  congr 2
  by_cases h1 : 9223372036854775808 ≤ a
  · have : a / 9223372036854775808 = 1 := by omega
    simp [h1, this]
  · have : a / 9223372036854775808 = 0 := by omega
    simp [h1, this]
theorem isnan_eq (a : Int) (h : 0 ≤ a) (h' : a < 18446744073709551616) : gimbalref04_IsNan.f a = some (decide (9218868437227405312 < a % 9223372036854775808)) := by
  unfold gimbalref04_IsNan.f
  rw [parts4_eq a h h', Option.bind_some]
  by_cases h1 : a / 4503599627370496 % 2048 = 2047
  · rw [if_pos h1]; congr 1; rw [Bool.eq_iff_iff]; simp; omega
  · rw [if_neg h1]; congr 1; symm; apply decide_eq_false; omega
theorem isinf_eq (a : Int) (h : 0 ≤ a) (h' : a < 18446744073709551616) : gimbalref04_IsInf.f a = some (decide (a % 9223372036854775808 = 9218868437227405312)) := by
  unfold gimbalref04_IsInf.f
  rw [parts4_eq a h h', Option.bind_some]
  by_cases h1 : a / 4503599627370496 % 2048 = 2047
  · rw [if_pos h1]; congr 1; rw [Bool.eq_iff_iff]; simp; omega
  · rw [if_neg h1]; congr 1; symm; apply decide_eq_false; omega
theorem iszero_eq (a : Int) (h : 0 ≤ a) (h' : a < 18446744073709551616) : gimbalref04_IsZero.f a = some (decide (a % 9223372036854775808 = 0)) := by
  unfold gimbalref04_IsZero.f
  rw [parts4_eq a h h', Option.bind_some]
  by_cases h1 : a / 4503599627370496 % 2048 = 0
  · rw [if_pos h1]; congr 1; rw [Bool.eq_iff_iff]; simp; omega
  · rw [if_neg h1]; congr 1; symm; apply decide_eq_false; omega
/-- A pattern's magnitude as a whole number (times 2^-1074). -/
def mag (m : Nat) : Nat := if m / 4503599627370496 = 0 then m % 4503599627370496 else (m % 4503599627370496 + 4503599627370496) * 2 ^ (m / 4503599627370496 - 1)
theorem mag_lt (m : Nat) : mag m < 4503599627370496 * 2 ^ (m / 4503599627370496) := by
  unfold mag
  by_cases h : m / 4503599627370496 = 0
  · rw [if_pos h, h]; omega
  · rw [if_neg h]
    obtain ⟨e, he⟩ : ∃ e, m / 4503599627370496 = e + 1 := ⟨m / 4503599627370496 - 1, by omega⟩
    rw [he, Nat.add_sub_cancel, Nat.pow_succ]
    have hp := Nat.two_pow_pos e
    have : (m % 4503599627370496 + 4503599627370496) * 2 ^ e < (4503599627370496 * 2) * 2 ^ e := Nat.mul_lt_mul_of_pos_right (by omega) hp
    have e2 : 4503599627370496 * (2 ^ e * 2) = (4503599627370496 * 2) * 2 ^ e := by rw [Nat.mul_assoc, Nat.mul_comm 2]
    omega
theorem mag_ge (m : Nat) (h : m / 4503599627370496 ≠ 0) : 4503599627370496 * 2 ^ (m / 4503599627370496 - 1) ≤ mag m := by
  unfold mag
  rw [if_neg h]
  exact Nat.mul_le_mul_right _ (by omega)
theorem mag_mono {m n : Nat} (h : m < n) : mag m < mag n := by
  by_cases he : m / 4503599627370496 = n / 4503599627370496
  · unfold mag
    rw [← he]
    by_cases h0 : m / 4503599627370496 = 0
    · rw [if_pos h0, if_pos h0]; omega
    · rw [if_neg h0, if_neg h0]
      exact Nat.mul_lt_mul_of_pos_right (by omega) (Nat.two_pow_pos _)
  · have hlt : m / 4503599627370496 < n / 4503599627370496 := by omega
    have a := mag_lt m
    have b := mag_ge n (by omega)
    have c : 2 ^ (m / 4503599627370496) ≤ 2 ^ (n / 4503599627370496 - 1) := Nat.pow_le_pow_right (by decide) (by omega)
    omega
theorem mag_pos {m : Nat} (h : 0 < m) : 0 < mag m := by
  have := mag_mono h
  omega
theorem blen_mag (m : Nat) (h : m < 9223372036854775808) : U.blen (mag m) ≤ 2100 := by
  refine (U.blen_le _ _).2 (Nat.lt_of_lt_of_le (mag_lt m) ?_)
  have : 2 ^ (m / 4503599627370496) ≤ 2 ^ 2047 := Nat.pow_le_pow_right (by decide) (by omega)
  have e : 4503599627370496 = 2 ^ 52 := by decide
  have e2 : 2 ^ 52 * 2 ^ 2047 = 2 ^ 2099 := by rw [← Nat.pow_add]
  have e3 : 2 ^ 2099 ≤ 2 ^ 2100 := Nat.pow_le_pow_right (by decide) (by omega)
  calc 4503599627370496 * 2 ^ (m / 4503599627370496) ≤ 4503599627370496 * 2 ^ 2047 := Nat.mul_le_mul_left _ this
    _ = 2 ^ 2099 := by rw [e, e2]
    _ ≤ 2 ^ 2100 := e3
theorem whole_eq (m : Nat) (h : m < 9223372036854775808) (k : Nat) (hk : 10000 < k) : gimbalref04_Whole.f k (m : Int) = some (U.binl (mag m)) := by
  unfold gimbalref04_Whole.f
  rw [parts4_eq _ (by omega) (by omega), Option.bind_some]
  simp only
  have e1 : (m : Int) / 4503599627370496 % 2048 = ((m / 4503599627370496 : Nat) : Int) := by omega
  have e2 : (m : Int) % 4503599627370496 = ((m % 4503599627370496 : Nat) : Int) := by omega
  rw [e1, e2]
  unfold mag
  by_cases h0 : m / 4503599627370496 = 0
  · rw [if_pos (by omega), if_pos h0, of_eq _ (by omega) k (by omega)]; rfl
  · rw [if_neg (by omega), if_neg h0]
    have e3 : IntKind.u64.wrap (((m % 4503599627370496 : Nat) : Int) + 4503599627370496) = ((m % 4503599627370496 + 4503599627370496 : Nat) : Int) := by rw [U.wrap_u64_id (by omega) (by omega)]; omega
    have e4 : wrap64 (((m / 4503599627370496 : Nat) : Int) - 1) = ((m / 4503599627370496 - 1 : Nat) : Int) := by rw [U.wrap64_id (by omega) (by omega)]; omega
    have bl := (U.blen_le 64 (m % 4503599627370496 + 4503599627370496)).2 (by omega)
    rw [e3, e4, of_eq _ (by omega) k (by omega)]
    simp only [Option.bind_some]
    rw [up_binl _ _ (by omega) k (by omega)]
    rfl
theorem kind5 (a : Int) (h : 0 ≤ a) (h' : a < 18446744073709551616) : kindOf a = 5 ↔ 9218868437227405312 < a % 9223372036854775808 := by
  unfold kindOf
  repeat (any_goals split)
  all_goals omega
/-- What stands for a pattern's magnitude in the law: infinity beyond all. -/
def mval (m : Nat) : Nat := if m = 9218868437227405312 then 2 ^ 3000 else mag m
theorem mval_mono {m n : Nat} (h : m < n) (hn : n ≤ 9218868437227405312) : mval m < mval n := by
  unfold mval
  rw [if_neg (by omega)]
  by_cases hi : n = 9218868437227405312
  · rw [if_pos hi]
    have a := mag_lt m
    have p : 2 ^ (m / 4503599627370496) ≤ 2 ^ 2047 := Nat.pow_le_pow_right (by decide) (by omega)
    have e : 4503599627370496 = 2 ^ 52 := by decide
    have e2 : 2 ^ 52 * 2 ^ 2047 = 2 ^ 2099 := by rw [← Nat.pow_add]
    have e3 : 2 ^ 2099 ≤ 2 ^ 3000 := Nat.pow_le_pow_right (by decide) (by omega)
    calc mag m < 4503599627370496 * 2 ^ (m / 4503599627370496) := a
      _ ≤ 4503599627370496 * 2 ^ 2047 := Nat.mul_le_mul_left _ p
      _ = 2 ^ 2099 := by rw [e, e2]
      _ ≤ 2 ^ 3000 := e3
  · rw [if_neg hi]; exact mag_mono h
theorem cmp_mval (m n : Nat) (hm : m ≤ 9218868437227405312) (hn : n ≤ 9218868437227405312) : U.cmp3 (mval m : Int) (mval n : Int) = U.cmp3 (m : Int) (n : Int) := by
  unfold U.cmp3
  rcases Nat.lt_trichotomy m n with h | h | h
  · have := mval_mono h hn
    rw [if_pos (by omega), if_pos (by omega)]
  · subst h
    rw [if_neg (by omega), if_neg (by omega), if_neg (by omega), if_neg (by omega)]
  · have := mval_mono h hm
    rw [if_neg (by omega), if_pos (by omega), if_neg (by omega), if_pos (by omega)]
theorem blen_mval (m : Nat) (h : m < 9223372036854775808) : U.blen (mval m) ≤ 3001 := by
  unfold mval
  split
  · exact (U.blen_le _ _).2 (Nat.pow_lt_pow_right (by decide) (by decide))
  · have := blen_mag m h; omega
theorem mval_zero (m : Nat) (hm : m ≤ 9218868437227405312) : (U.blen (mval m) = 0) ↔ m = 0 := by
  rw [U.blen_eq_zero]
  constructor
  · intro h
    by_cases h0 : 0 < m
    · have := mval_mono h0 hm; omega
    · omega
  · rintro rfl; decide
/-- The value's comparison, as the law tells it. -/
def valOf (a b : Int) : Int :=
  if a % 9223372036854775808 = 0 ∧ b % 9223372036854775808 = 0 then 0
  else if 9223372036854775808 ≤ a ∧ 9223372036854775808 ≤ b then -U.cmp3 (a % 9223372036854775808) (b % 9223372036854775808)
  else if 9223372036854775808 ≤ a then -1 else if 9223372036854775808 ≤ b then 1 else U.cmp3 (a % 9223372036854775808) (b % 9223372036854775808)
set_option maxHeartbeats 1000000 in
theorem value_eq (a b : Int) (ha : 0 ≤ a) (ha' : a < 18446744073709551616) (hb : 0 ≤ b) (hb' : b < 18446744073709551616)
    (na : a % 9223372036854775808 ≤ 9218868437227405312) (nb : b % 9223372036854775808 ≤ 9218868437227405312) (k : Nat) (hk : 20000 < k) : gimballaw06_value.f k a b = some (valOf a b) := by
  obtain ⟨k, rfl⟩ : ∃ m, k = m + 5 := ⟨k - 5, by omega⟩
  have ma : a % 9223372036854775808 = (((a % 9223372036854775808).toNat : Nat) : Int) := by omega
  have mb : b % 9223372036854775808 = (((b % 9223372036854775808).toNat : Nat) : Int) := by omega
  generalize hm : (a % 9223372036854775808).toNat = m at ma
  generalize hn : (b % 9223372036854775808).toNat = n at mb
  have inf : ∀ k', 15000 < k' → gimbalref02_Up.f k' [1] 3000 = some (U.binl (2 ^ 3000)) := by
    intro k' hk'
    have := up_binl 1 3000 (by rw [(show U.blen 1 = 1 by unfold U.blen; rw [U.binl_one]; rfl)]; decide) k' (by rw [(show U.blen 1 = 1 by unfold U.blen; rw [U.binl_one]; rfl)]; omega)
    rw [U.binl_one, Nat.one_mul] at this
    exact this
  have bm := blen_mval m (by omega)
  have bn := blen_mval n (by omega)
  have j3 : ∀ c f, (f = (decide (9223372036854775808 ≤ a) && decide (9223372036854775808 ≤ b))) → (c = -1 ∨ c = 0 ∨ c = 1) → gimballaw06_value.j3 (k + 2) a b c f = some (if 9223372036854775808 ≤ a ∧ 9223372036854775808 ≤ b then -c else if 9223372036854775808 ≤ a then -1 else if 9223372036854775808 ≤ b then 1 else c) := by
    intro c f hf hc
    simp only [gimballaw06_value.j3]
    rw [neg_eq a ha ha', neg_eq b hb hb']
    simp only [U.bs]
    have hw : wrap64 (-c) = -c := U.wrap64_id (by omega) (by omega)
    rw [hf, hw]
    by_cases c1 : 9223372036854775808 ≤ a
    · by_cases c2 : 9223372036854775808 ≤ b
      · simp [c1, c2]
      · simp [c1, c2]
    · by_cases c2 : 9223372036854775808 ≤ b
      · simp [c1, c2]
      · simp [c1, c2]
  have j1 : gimballaw06_value.j1 (k + 4) a b (U.binl (mval m)) (U.binl (mval n)) = some (valOf a b) := by
    simp only [gimballaw06_value.j1]
    rw [refcmp_binl _ _ (by omega) (by omega) (k + 3) (by omega) (by omega), cmp_mval m n (by omega) (by omega)]
    simp only [U.bs]
    have c3 := U.cmp3_cases (m : Int) (n : Int)
    have l1 : ((U.binl (mval m)).length : Int) = 0 ↔ m = 0 := by rw [← mval_zero m (by omega)]; show ((U.blen (mval m) : Nat) : Int) = 0 ↔ _; omega
    have l2 : ((U.binl (mval n)).length : Int) = 0 ↔ n = 0 := by rw [← mval_zero n (by omega)]; show ((U.blen (mval n) : Nat) : Int) = 0 ↔ _; omega
    have j2 : ∀ f, f = decide (m = 0 ∧ n = 0) → gimballaw06_value.j2 (k + 3) a b (U.cmp3 (m : Int) (n : Int)) f = some (valOf a b) := by
      intro f hf
      simp only [gimballaw06_value.j2]
      rw [neg_eq a ha ha', neg_eq b hb hb']
      simp only [U.bs]
      unfold valOf
      rw [ma, mb, hf]
      by_cases z : m = 0 ∧ n = 0
      · rw [if_pos (show decide (m = 0 ∧ n = 0) = true from decide_eq_true z), if_pos (show (m : Int) = 0 ∧ (n : Int) = 0 by omega)]
      · rw [if_neg (show ¬ decide (m = 0 ∧ n = 0) = true by simpa using z), if_neg (show ¬ ((m : Int) = 0 ∧ (n : Int) = 0) by omega)]
        by_cases c1 : 9223372036854775808 ≤ a
        · rw [if_pos (show decide (9223372036854775808 ≤ a) = true from decide_eq_true c1), j3 _ _ (by simp [c1]) (by omega)]
        · rw [if_neg (show ¬ decide (9223372036854775808 ≤ a) = true by simpa using c1), j3 _ _ (by simp [c1]) (by omega)]
    by_cases z : m = 0
    · rw [if_pos (l1.2 z)]
      refine j2 _ ?_
      rw [Bool.eq_iff_iff]; simp only [beq_iff_eq, decide_eq_true_eq]; rw [l2]; simp [z]
    · rw [if_neg (fun h => z (l1.1 h))]
      refine j2 _ ?_
      symm; apply decide_eq_false; omega
  have j0 : gimballaw06_value.j0 (k + 5) a b (U.binl (mval m)) (U.binl (mag n)) = some (valOf a b) := by
    simp only [gimballaw06_value.j0]
    rw [isinf_eq b hb hb']
    simp only [U.bs]
    by_cases hi : b % 9223372036854775808 = 9218868437227405312
    · rw [if_pos (by simpa using hi), inf _ (by omega), Option.bind_some]
      have : mval n = 2 ^ 3000 := by unfold mval; rw [if_pos (by omega)]
      rw [← this]; exact j1
    · rw [if_neg (by simpa using hi)]
      have : mval n = mag n := by unfold mval; rw [if_neg (by omega)]
      rw [← this]; exact j1
  unfold gimballaw06_value.f
  rw [abs_eq a ha ha', abs_eq b hb hb', ma, mb]
  simp only [U.bs]
  rw [whole_eq m (by omega) _ (by omega), whole_eq n (by omega) _ (by omega), isinf_eq a ha ha']
  simp only [U.bs]
  by_cases hi : a % 9223372036854775808 = 9218868437227405312
  · rw [if_pos (by simpa using hi), inf _ (by omega), Option.bind_some]
    have : mval m = 2 ^ 3000 := by unfold mval; rw [if_pos (by omega)]
    rw [← this]; exact j0
  · rw [if_neg (by simpa using hi)]
    have : mval m = mag m := by unfold mval; rw [if_neg (by omega)]
    rw [← this]; exact j0
set_option maxHeartbeats 2000000 in
theorem OrderCmps : gimballaw06_OrderCmps.Pure := by
  intro a b wa wb
  obtain ⟨ha, ha'⟩ := U.wf_u64 wa
  obtain ⟨hb, hb'⟩ := U.wf_u64 wb
  suffices h : ∀ k, 30000 < k → gimballaw06_OrderCmps.f k a b = some true from ⟨30001, h _ (by omega)⟩
  intro k hk
  obtain ⟨k, rfl⟩ : ∃ m, k = m + 10 := ⟨k - 10, by omega⟩
  have ka := kind5 a ha ha'
  have kb := kind5 b hb hb'
  have cm := cmp3_cases (rankOf a) (rankOf b)
  unfold gimballaw06_OrderCmps.f
  rw [head_eq, cmp_eq _ a b ha ha' hb hb', isnan_eq a ha ha', isnan_eq b hb hb']
  simp only [U.bs, if_true]
  have nan : (kindOf a = 5 ∨ kindOf b = 5) → gimballaw06_OrderCmps.j0 (k + 10) a b (cmpOf a b).1 (cmpOf a b).2 true = some true := by
    intro hn
    have hc : cmpOf a b = (0, false) := by unfold cmpOf; rw [if_pos hn]
    have hl : lessOf a b = false := by unfold lessOf; apply decide_eq_false; omega
    have hs : sameOf a b = false := by unfold sameOf; apply decide_eq_false; omega
    simp only [gimballaw06_OrderCmps.j0]
    rw [less_eq _ a b ha ha' hb hb', same_eq _ a b ha ha' hb hb', hc, hl, hs]
    simp
  have num : ¬ (kindOf a = 5 ∨ kindOf b = 5) → gimballaw06_OrderCmps.j0 (k + 10) a b (cmpOf a b).1 (cmpOf a b).2 false = some true := by
    intro hn
    have hc : cmpOf a b = (cmp3 (rankOf a) (rankOf b), true) := by unfold cmpOf; rw [if_neg hn]
    have hl : lessOf a b = decide (cmp3 (rankOf a) (rankOf b) < 0) := by
      unfold lessOf; rw [Bool.eq_iff_iff]; simp only [decide_eq_true_eq]; omega
    have hs : sameOf a b = decide (cmp3 (rankOf a) (rankOf b) = 0) := by
      unfold sameOf; rw [Bool.eq_iff_iff]; simp only [decide_eq_true_eq]; omega
    have na : a % 9223372036854775808 ≤ 9218868437227405312 := by omega
    have nb : b % 9223372036854775808 ≤ 9218868437227405312 := by omega
    have ma : a % 9223372036854775808 = (((a % 9223372036854775808).toNat : Nat) : Int) := by omega
    have c4 := U.cmp3_cases (a % 9223372036854775808) (b % 9223372036854775808)
    have key : valOf a b = cmp3 (rankOf a) (rankOf b) := by
      unfold valOf rankOf at *
      repeat (any_goals split at *)
      all_goals omega
    have j1 : ∀ f w, (if f = true then (if 9223372036854775808 ≤ b then 1 else -1) else w) = cmp3 (rankOf a) (rankOf b) → gimballaw06_OrderCmps.j1 (k + 9) a b (cmp3 (rankOf a) (rankOf b)) true w f = some true := by
      intro f w hw
      simp only [gimballaw06_OrderCmps.j1]
      rw [neg_eq b hb hb', less_eq _ a b ha ha' hb hb', same_eq _ a b ha ha' hb hb', hl, hs]
      simp only [U.bs]
      cases f with
      | true =>
        rw [if_pos rfl] at hw ⊢
        by_cases c1 : 9223372036854775808 ≤ b
        · rw [if_pos c1] at hw
          rw [← hw]; simp [c1]
        · rw [if_neg c1] at hw
          rw [← hw]; simp [c1]
      | false =>
        rw [if_neg (by decide)] at hw ⊢
        rw [hw]
        simp
        rw [Bool.eq_iff_iff]; simp
    simp only [gimballaw06_OrderCmps.j0]
    rw [value_eq a b ha ha' hb hb' na nb _ (by omega), abs_eq a ha ha', ma]
    simp only [U.bs]
    rw [whole_eq _ (by omega) _ (by omega), isinf_eq a ha ha', neg_eq a ha ha', neg_eq b hb hb', iszero_eq b hb hb']
    simp only [U.bs]
    rw [if_neg (by decide), hc]
    simp only
    have lz : ((U.binl (mag (a % 9223372036854775808).toNat)).length : Int) = 0 ↔ a % 9223372036854775808 = 0 := by
      show ((U.blen (mag (a % 9223372036854775808).toNat) : Nat) : Int) = 0 ↔ _
      have z := U.blen_eq_zero (n := mag (a % 9223372036854775808).toNat)
      constructor
      · intro h
        by_cases h0 : 0 < (a % 9223372036854775808).toNat
        · have := mag_pos h0; omega
        · omega
      · intro h
        have : (a % 9223372036854775808).toNat = 0 := by omega
        have z0 := z.2 (by rw [this]; decide)
        omega
    have plain : gimballaw06_OrderCmps.j1 (k + 9) a b (cmp3 (rankOf a) (rankOf b)) true (valOf a b) false = some true := j1 false _ (by rw [if_neg (by decide)]; exact key)
    by_cases z : a % 9223372036854775808 = 0
    · rw [if_pos (lz.2 z), if_neg (by simp; omega)]
      by_cases s : (decide (9223372036854775808 ≤ a) != decide (9223372036854775808 ≤ b)) = true
      · rw [if_pos s]
        refine j1 _ _ ?_
        by_cases zb : b % 9223372036854775808 = 0
        · rw [if_neg (by simp [zb])]; exact key
        · rw [if_pos (by simp [zb])]
          unfold rankOf cmp3
          simp at s
          repeat (any_goals split)
          all_goals omega
      · rw [if_neg s]; exact plain
    · rw [if_neg (fun h => z (lz.1 h))]; exact plain
  by_cases h1 : kindOf a = 5
  · rw [if_pos (by simpa using ka.1 h1)]; exact nan (Or.inl h1)
  · rw [if_neg (by simp; omega)]
    by_cases h2 : kindOf b = 5
    · have : decide (9218868437227405312 < b % 9223372036854775808) = true := decide_eq_true (kb.1 h2)
      rw [this]; exact nan (Or.inr h2)
    · have : decide (9218868437227405312 < b % 9223372036854775808) = false := decide_eq_false (by omega)
      rw [this]; exact num (by omega)
end Go.Proofs.Ytlnpcbhbcmhbkaa.Pure
