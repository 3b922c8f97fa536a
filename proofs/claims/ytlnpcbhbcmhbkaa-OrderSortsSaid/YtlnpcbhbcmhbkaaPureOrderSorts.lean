/- The law OrderSorts of layer 6: some patterns, taken out one by one by the order of all patterns, are in order, and all of them; no condition beyond the list's own bounds. -/
import Derived.Test.YtlnpcbhbcmhbkaaPOrderSortsx3
import Derived.Test.YtlnpcbhbcmhbkaaWSized
import Derived.Test.YtlnpcbhbcmhbkaaU
set_option linter.unusedSimpArgs false
set_option linter.unusedVariables false
set_option exponentiation.threshold 5000
namespace Go.Proofs.Ytlnpcbhbcmhbkaa.Pure
open Go.RowKit Go.Proofs.Ytlnpcbhbcmhbkaa Go.Proofs.Ytlnpcbhbcmhbkaa.POrderSorts Go.Proofs.YtlnpcbhbcmhbkaaW.PrintWords Go.Proofs.YtlnpcbhbcmhbkaaW.PrintLast
def kindOf (a : Int) : Int :=
  if a / 4503599627370496 % 2048 = 0 then (if a % 4503599627370496 = 0 then 1 else 2)
  else if a / 4503599627370496 % 2048 < 2047 then 3 else if a % 4503599627370496 = 0 then 4 else 5
theorem neg_eq (a : Int) (h : 0 ≤ a) (h' : a < 18446744073709551616) : word_Neg.f a = some (decide (9223372036854775808 ≤ a)) := by
  unfold word_Neg.f
  congr 1
  by_cases h1 : 9223372036854775808 ≤ a
  · have : a / 9223372036854775808 = 1 := by omega
    simp [h1, this]
  · have : a / 9223372036854775808 = 0 := by omega
    simp [h1, this]
theorem exp_eq (a : Int) (h : 0 ≤ a) (h' : a < 18446744073709551616) : word_Exp.f a = some (a / 4503599627370496 % 2048) := by
  unfold word_Exp.f
  rw [U.and_2047 (by omega) (by omega), U.wrap64_id (by omega) (by omega)]
theorem frac_eq (a : Int) (h : 0 ≤ a) (h' : a < 18446744073709551616) : word_Frac.f a = some (a % 4503599627370496) := by
  unfold word_Frac.f
  rw [U.and_52 h h']
theorem kind_eq (k : Nat) (a : Int) (h : 0 ≤ a) (h' : a < 18446744073709551616) : word_Kind.f (k + 1) a = some (kindOf a) := by
  unfold word_Kind.f
  rw [exp_eq a h h', frac_eq a h h']
  simp only [Option.bind_some, word_Kind.j0, kindOf]
  by_cases h1 : a / 4503599627370496 % 2048 = 0
  · by_cases h2 : a % 4503599627370496 = 0 <;> simp [h1, h2]
  · simp [h1]
    repeat (any_goals split)
    all_goals simp
theorem abs_eq (a : Int) (h : 0 ≤ a) (h' : a < 18446744073709551616) : word_Abs.f a = some (a % 9223372036854775808) := by
  unfold word_Abs.f
  rw [U.andNot_63 h h']
theorem signals_eq (k : Nat) (a : Int) (h : 0 ≤ a) (h' : a < 18446744073709551616) : word_Signals.f (k + 1) a = some (decide (kindOf a = 5 ∧ a % 4503599627370496 < 2251799813685248)) := by
  unfold word_Signals.f
  rw [kind_eq k a h h']
  simp only [Option.bind_some]
  rw [U.and_1 (by omega) (by omega)]
  by_cases h1 : kindOf a = 5
  · rw [if_pos h1]
    by_cases h2 : a % 4503599627370496 < 2251799813685248
    · have : a / 2251799813685248 % 2 = 0 := by omega
      simp [h1, h2, this]
    · have : a / 2251799813685248 % 2 = 1 := by omega
      simp [h1, h2, this]
  · simp [h1]
def cmp3 (x y : Int) : Int := if x < y then -1 else if x > y then 1 else 0
theorem cmp3_cases (x y : Int) : (cmp3 x y = -1 ∧ x < y) ∨ (cmp3 x y = 1 ∧ y < x) ∨ (cmp3 x y = 0 ∧ x = y) := by
  unfold cmp3; repeat (any_goals split)
  all_goals omega
def rankOf (a : Int) : Int := if 9223372036854775808 ≤ a then 9223372036854775808 - a else a
def keyOf (a : Int) : Int := if 9223372036854775808 ≤ a then 9223372036854775807 - a else a
theorem rank_eq (a : Int) (h : 0 ≤ a) (h' : a < 18446744073709551616) : order_rank.f a = some (rankOf a) := by
  unfold order_rank.f rankOf
  rw [neg_eq a h h', abs_eq a h h']
  simp only [Option.bind_some]
  by_cases h1 : 9223372036854775808 ≤ a
  · have e : wrap64 (-(wrap64 (a % 9223372036854775808))) = 9223372036854775808 - a := by
      rw [U.wrap64_id (a := a % 9223372036854775808) (by omega) (by omega), U.wrap64_id (by omega) (by omega)]; omega
    rw [e]; simp [h1]
  · rw [U.wrap64_id (a := a) (by omega) (by omega)]; simp [h1]
def cmpOf (a b : Int) : Int × Bool := if kindOf a = 5 ∨ kindOf b = 5 then (0, false) else (cmp3 (rankOf a) (rankOf b), true)
theorem cmp_eq (k : Nat) (a b : Int) (h : 0 ≤ a) (h' : a < 18446744073709551616) (g : 0 ≤ b) (g' : b < 18446744073709551616) : order_Cmp.f (k + 1) a b = some (cmpOf a b) := by
  unfold order_Cmp.f cmpOf
  rw [kind_eq k a h h', kind_eq k b g g']
  simp only [Option.bind_some, order_Cmp.j0]
  rw [rank_eq a h h', rank_eq b g g']
  simp only [Option.bind_some]
  by_cases h1 : kindOf a = 5
  · simp [h1]
  · by_cases h2 : kindOf b = 5
    · simp [h1, h2]
    · simp only [h1, h2, cmp3]
      by_cases c1 : rankOf a < rankOf b
      · simp [c1, h2]
      · by_cases c2 : rankOf a > rankOf b
        · simp [c1, c2, h2]
        · simp [c1, c2, h2]
theorem total_eq (k : Nat) (a b : Int) (h : 0 ≤ a) (h' : a < 18446744073709551616) (g : 0 ≤ b) (g' : b < 18446744073709551616) : order_Total.f (k + 2) a b = some (cmp3 (keyOf a) (keyOf b)) := by
  have ea : 9223372036854775808 ≤ a → wrap64 a = a - 18446744073709551616 := fun _ => by unfold wrap64; omega
  have eb : 9223372036854775808 ≤ b → wrap64 b = b - 18446744073709551616 := fun _ => by unfold wrap64; omega
  have ea' : ¬ 9223372036854775808 ≤ a → wrap64 a = a := fun _ => U.wrap64_id (by omega) (by omega)
  have eb' : ¬ 9223372036854775808 ≤ b → wrap64 b = b := fun _ => U.wrap64_id (by omega) (by omega)
  have fin : ∀ x y, order_Total.j1 (k + 1) x y = some (cmp3 x y) := by
    intro x y
    simp only [order_Total.j1, cmp3]
    by_cases c1 : x < y
    · rw [if_pos c1, if_pos c1]
    · rw [if_neg c1, if_neg c1]
      by_cases c2 : x > y
      · rw [if_pos c2, if_pos c2]
      · rw [if_neg c2, if_neg c2]
  have fin0 : ∀ x, order_Total.j0 (k + 2) x (wrap64 b) = some (cmp3 x (keyOf b)) := by
    intro x
    simp only [order_Total.j0]
    unfold keyOf
    by_cases h2 : 9223372036854775808 ≤ b
    · have e := eb h2
      rw [e, if_pos (by omega), if_pos h2, fin, U.xor_low63 (by omega) (by omega)]
      congr 2; omega
    · have e := eb' h2
      rw [e, if_neg (by omega), if_neg h2, fin]
  unfold order_Total.f
  rw [fin0, fin0]
  by_cases h1 : 9223372036854775808 ≤ a
  · have e := ea h1
    rw [e, if_pos (by omega), U.xor_low63 (by omega) (by omega)]
    unfold keyOf
    rw [if_pos h1]
    congr 2; omega
  · have e := ea' h1
    rw [e, if_neg (by omega)]
    have : keyOf a = a := by unfold keyOf; rw [if_neg h1]
    rw [this]
theorem cmp3_eq (x y : Int) (f : Bool) : (if x < y then some ((-1 : Int), f) else if x > y then some (1, f) else some (0, f)) = some (cmp3 x y, f) := by
  unfold cmp3; repeat (any_goals split)
  all_goals rfl
theorem nan_eq (k : Nat) (a b : Int) (h : 0 ≤ a) (h' : a < 18446744073709551616) (g : 0 ≤ b) (g' : b < 18446744073709551616) :
    order_nan.f (k + 2) a b = some (if (kindOf a = 5 ∧ a % 4503599627370496 < 2251799813685248) ∨ (kindOf b = 5 ∧ b % 4503599627370496 < 2251799813685248) then (16, true) else (0, decide (kindOf a = 5 ∨ kindOf b = 5))) := by
  unfold order_nan.f
  rw [signals_eq _ a h h', signals_eq _ b g g']
  simp only [Option.bind_some, order_nan.j0]
  rw [kind_eq _ a h h', kind_eq _ b g g']
  simp only [Option.bind_some]
  by_cases h1 : kindOf a = 5 ∧ a % 4503599627370496 < 2251799813685248
  · simp [h1]
  · by_cases h2 : kindOf b = 5 ∧ b % 4503599627370496 < 2251799813685248
    · simp [h1, h2]
    · have e1 : decide (kindOf a = 5 ∧ a % 4503599627370496 < 2251799813685248) = false := decide_eq_false h1
      have e2 : decide (kindOf b = 5 ∧ b % 4503599627370496 < 2251799813685248) = false := decide_eq_false h2
      have e3 : ¬ ((kindOf a = 5 ∧ a % 4503599627370496 < 2251799813685248) ∨ (kindOf b = 5 ∧ b % 4503599627370496 < 2251799813685248)) := fun o => o.elim h1 h2
      rw [e1, e2, if_neg e3]
      by_cases c1 : kindOf a = 5
      · simp [c1]
      · by_cases c2 : kindOf b = 5
        · simp [c1, c2]
        · simp [c1, c2]
theorem by_eq (c a b : Int) : order_by_uint64.f c a b = some (if c < 0 then b else a) := by
  unfold order_by_uint64.f; split <;> rfl
def maxOf (a b : Int) : Int := if keyOf a < keyOf b then b else a
def minOf (a b : Int) : Int := if keyOf b < keyOf a then b else a
def sigs (a b : Int) : Int := if (kindOf a = 5 ∧ a % 4503599627370496 < 2251799813685248) ∨ (kindOf b = 5 ∧ b % 4503599627370496 < 2251799813685248) then 16 else 0
theorem max_eq (k : Nat) (a b : Int) (h : 0 ≤ a) (h' : a < 18446744073709551616) (g : 0 ≤ b) (g' : b < 18446744073709551616) :
    order_Max.f (k + 2) a b = some (if kindOf a = 5 ∨ kindOf b = 5 then (9221120237041090560, sigs a b) else (maxOf a b, 0)) := by
  unfold order_Max.f
  rw [nan_eq _ a b h h' g g', total_eq _ a b h h' g g']
  simp only [Option.bind_some, by_eq]
  unfold sigs maxOf
  by_cases h1 : (kindOf a = 5 ∧ a % 4503599627370496 < 2251799813685248) ∨ (kindOf b = 5 ∧ b % 4503599627370496 < 2251799813685248)
  · have h2 : kindOf a = 5 ∨ kindOf b = 5 := h1.imp (fun x => x.1) (fun x => x.1)
    rw [if_pos h1, if_pos h2, if_pos h1]; rfl
  · rw [if_neg h1, if_neg h1]
    by_cases h2 : kindOf a = 5 ∨ kindOf b = 5
    · rw [if_pos h2]; simp [h2]
    · rw [if_neg h2]
      have e := cmp3_cases (keyOf a) (keyOf b)
      simp only [h2, decide_false, Bool.false_eq_true, if_false]
      by_cases c : keyOf a < keyOf b
      · rw [if_pos c, if_pos (by omega)]
      · rw [if_neg c, if_neg (by omega)]
theorem head_eq (k : Nat) : gimballaw06_head.f (k + 2) = some true := by
  unfold gimballaw06_head.f
  rw [max_eq k _ _ (by decide) (by decide) (by decide) (by decide), cmp_eq (k + 1) _ _ (by decide) (by decide) (by decide) (by decide)]
  simp [kindOf, cmpOf, maxOf, keyOf, rankOf, cmp3]
def lessOf (a b : Int) : Bool := decide (kindOf a ≠ 5 ∧ kindOf b ≠ 5 ∧ rankOf a < rankOf b)
theorem less_eq (k : Nat) (a b : Int) (h : 0 ≤ a) (h' : a < 18446744073709551616) (g : 0 ≤ b) (g' : b < 18446744073709551616) : order_Less.f (k + 1) a b = some (lessOf a b) := by
  unfold order_Less.f lessOf
  rw [cmp_eq k a b h h' g g']
  simp only [Option.bind_some]
  unfold cmpOf
  have e := cmp3_cases (rankOf a) (rankOf b)
  by_cases h1 : kindOf a = 5
  · simp [h1]
  · by_cases h2 : kindOf b = 5
    · simp [h2]
    · simp [h1, h2]; omega
def W64 (l : List Int) : Prop := ∀ x ∈ l, 0 ≤ x ∧ x < 18446744073709551616
theorem rdn (l : List Int) (n : Nat) : rd l (n : Int) = l.getD n 0 := by unfold rd; rw [Int.toNat_natCast]
theorem getD_mem (l : List Int) (n : Nat) (h : n < l.length) : l.getD n 0 ∈ l := by
  rw [List.getD_eq_getElem?_getD, List.getElem?_eq_getElem h, Option.getD_some]
  exact List.getElem_mem h
theorem mem_getD (l : List Int) (x : Int) (h : x ∈ l) : ∃ n, n < l.length ∧ l.getD n 0 = x := by
  obtain ⟨n, hn, e⟩ := List.mem_iff_getElem.mp h
  exact ⟨n, hn, by rw [List.getD_eq_getElem?_getD, List.getElem?_eq_getElem hn, Option.getD_some, e]⟩
def InOrder (l : List Int) : Prop := ∀ i, i + 1 < l.length → keyOf (l.getD i 0) ≤ keyOf (l.getD (i + 1) 0)
theorem less_of_key (x y : Int) (hx : 0 ≤ x) (hy : 0 ≤ y) (hk : keyOf x ≤ keyOf y) : lessOf y x = false := by
  unfold lessOf
  apply decide_eq_false
  rintro ⟨-, -, hr⟩
  unfold keyOf at hk; unfold rankOf at hr
  repeat (any_goals split at *)
  all_goals omega
theorem sorts_l2 (x0 out : List Int) (hw : W64 out) (ho : InOrder out) (hn : out.length ≤ 100) (he : out.length = x0.length) (d : Nat) : ∀ k i : Nat, i + d = out.length → d + 5 < k →
    gimballaw06_OrderSorts.l2 k x0 out (out.length : Int) (i : Int) = some true := by
  induction d with
  | zero =>
    intro k i hi hk
    obtain ⟨k, rfl⟩ : ∃ m, k = m + 1 := ⟨k - 1, by omega⟩
    rw [gimballaw06_OrderSorts.l2, if_neg (by omega), he, beq_self_eq_true]
  | succ d ih =>
    intro k i hi hk
    obtain ⟨k, rfl⟩ : ∃ m, k = m + 3 := ⟨k - 3, by omega⟩
    have w : wrap64 ((i : Int) + 1) = ((i + 1 : Nat) : Int) := by rw [U.wrap64_id (by omega) (by omega)]; omega
    rw [gimballaw06_OrderSorts.l2, if_pos (by omega), w]
    by_cases h0 : (i : Int) > 0
    · obtain ⟨j, rfl⟩ : ∃ j, i = j + 1 := ⟨i - 1, by omega⟩
      have w1 : wrap64 (((j + 1 : Nat) : Int) - 1) = (j : Int) := by rw [U.wrap64_id (by omega) (by omega)]; omega
      have m1 := hw _ (getD_mem out j (by omega))
      have m2 := hw _ (getD_mem out (j + 1) (by omega))
      have ok := ho j (by omega)
      have c := cmp3_cases (keyOf (out.getD j 0)) (keyOf (out.getD (j + 1) 0))
      rw [if_pos h0, w1, if_pos (by omega), if_pos (by omega), if_pos (by omega), if_pos (by omega), rdn, rdn, total_eq _ _ _ m1.1 m1.2 m2.1 m2.2, U.bs, if_neg (by omega), less_eq _ _ _ m2.1 m2.2 m1.1 m1.2, U.bs, less_of_key _ _ m1.1 m2.1 ok, if_neg (by decide)]
      exact ih (k + 2) (j + 1 + 1) (by omega) (by omega)
    · rw [if_neg h0]
      exact ih (k + 2) (i + 1) (by omega) (by omega)
theorem sorts_l1 (x0 rest out : List Int) (hw : W64 rest) (hn : rest.length ≤ 100) (ho : out.length ≤ 100) (K : Nat)
    (hnext : ∀ a, a < rest.length → (∀ j, j < rest.length → keyOf (rest.getD a 0) ≤ keyOf (rest.getD j 0)) → ∀ k, K < k → gimballaw06_OrderSorts.l0 k x0 (rest.take a ++ rest.drop (a + 1)) (out ++ [rest.getD a 0]) = some true) (d : Nat) :
    ∀ k a i : Nat, i + d = rest.length → a < rest.length → (∀ j, j < i → keyOf (rest.getD a 0) ≤ keyOf (rest.getD j 0)) → d + K + 5 < k →
      gimballaw06_OrderSorts.l1 k x0 rest out (a : Int) (rest.length : Int) (i : Int) = some true := by
  induction d with
  | zero =>
    intro k a i hi ha hmin hk
    obtain ⟨k, rfl⟩ : ∃ m, k = m + 1 := ⟨k - 1, by omega⟩
    have w : wrap64 ((a : Int) + 1) = ((a + 1 : Nat) : Int) := by rw [U.wrap64_id (by omega) (by omega)]; omega
    have l1 : (rest.take a).length ≤ 100 := by rw [List.length_take]; omega
    have l2 : (rest.drop (a + 1)).length ≤ 100 := by rw [List.length_drop]; omega
    rw [gimballaw06_OrderSorts.l1, if_neg (by omega), if_pos (by omega), if_pos (by omega), if_pos (by omega), U.bs, if_pos (by omega), U.bs, Int.toNat_natCast, if_pos (by simp only [List.length_nil]; omega), U.bs, w, if_pos (by omega), if_pos (by omega), U.bs, Int.toNat_natCast,
      if_pos (by simp only [List.nil_append]; omega), rdn, List.nil_append]
    exact hnext a ha (fun j hj => hmin j (by omega)) k (by omega)
  | succ d ih =>
    intro k a i hi ha hmin hk
    obtain ⟨k, rfl⟩ : ∃ m, k = m + 3 := ⟨k - 3, by omega⟩
    have w : wrap64 ((i : Int) + 1) = ((i + 1 : Nat) : Int) := by rw [U.wrap64_id (by omega) (by omega)]; omega
    have m1 := hw _ (getD_mem rest i (by omega))
    have m2 := hw _ (getD_mem rest a ha)
    have c := cmp3_cases (keyOf (rest.getD i 0)) (keyOf (rest.getD a 0))
    rw [gimballaw06_OrderSorts.l1, if_pos (by omega), if_pos (by omega), if_pos (by omega), if_pos (by omega), if_pos (by omega), rdn, rdn, total_eq _ _ _ m1.1 m1.2 m2.1 m2.2, U.bs, w]
    by_cases lt : cmp3 (keyOf (rest.getD i 0)) (keyOf (rest.getD a 0)) < 0
    · rw [if_pos lt]
      refine ih (k + 2) i (i + 1) (by omega) (by omega) ?_ (by omega)
      intro j hj
      by_cases e : j = i
      · subst e; omega
      · have := hmin j (by omega); omega
    · rw [if_neg lt]
      refine ih (k + 2) a (i + 1) (by omega) ha ?_ (by omega)
      intro j hj
      by_cases e : j = i
      · subst e; omega
      · exact hmin j (by omega)
theorem sorts_l0 (x0 : List Int) (hx : x0.length ≤ 40) (n : Nat) : ∀ (k : Nat) (rest out : List Int), rest.length = n → rest.length + out.length = x0.length → W64 rest → W64 out → InOrder out → (∀ x ∈ out, ∀ y ∈ rest, keyOf x ≤ keyOf y) → 60 * n + 60 < k →
    gimballaw06_OrderSorts.l0 k x0 rest out = some true := by
  induction n with
  | zero =>
    intro k rest out hr hl wr wo io _ hk
    obtain ⟨k, rfl⟩ : ∃ m, k = m + 1 := ⟨k - 1, by omega⟩
    rw [gimballaw06_OrderSorts.l0, if_neg (by omega)]
    exact sorts_l2 x0 out wo io (by omega) (by omega) out.length k 0 (by omega) (by omega)
  | succ n ih =>
    intro k rest out hr hl wr wo io bel hk
    obtain ⟨k, rfl⟩ : ∃ m, k = m + 1 := ⟨k - 1, by omega⟩
    rw [gimballaw06_OrderSorts.l0, if_pos (by omega)]
    refine sorts_l1 x0 rest out wr (by omega) (by omega) (60 * n + 60) ?_ rest.length k 0 0 (by omega) (by omega) (fun j hj => by omega) (by omega)
    intro a ha hmin k' hk'
    have sub : ∀ y, y ∈ rest.take a ++ rest.drop (a + 1) → y ∈ rest := by
      intro y hy
      rcases List.mem_append.mp hy with hy | hy
      · exact List.mem_of_mem_take hy
      · exact List.mem_of_mem_drop hy
    have mn : ∀ y ∈ rest, keyOf (rest.getD a 0) ≤ keyOf y := by
      intro y hy
      obtain ⟨j, hj, e⟩ := mem_getD rest y hy
      rw [← e]; exact hmin j hj
    have len : (rest.take a ++ rest.drop (a + 1)).length = n := by
      rw [List.length_append, List.length_take, List.length_drop]; omega
    refine ih k' _ _ len ?_ ?_ ?_ ?_ ?_ hk'
    · rw [len, List.length_append]; simp only [List.length_cons, List.length_nil]; omega
    · intro y hy; exact wr y (sub y hy)
    · intro y hy
      rcases List.mem_append.mp hy with hy | hy
      · exact wo y hy
      · rw [List.mem_singleton.mp hy]; exact wr _ (getD_mem rest a ha)
    · intro i hi
      rw [List.length_append] at hi
      simp only [List.length_cons, List.length_nil] at hi
      have left : ∀ j, j < out.length → (out ++ [rest.getD a 0]).getD j 0 = out.getD j 0 := by
        intro j hj
        rw [List.getD_eq_getElem?_getD, List.getElem?_append_left hj, ← List.getD_eq_getElem?_getD]
      by_cases e : i + 1 < out.length
      · rw [left i (by omega), left (i + 1) e]; exact io i e
      · have last : (out ++ [rest.getD a 0]).getD (i + 1) 0 = rest.getD a 0 := by
          rw [List.getD_eq_getElem?_getD, List.getElem?_append_right (by omega), show i + 1 - out.length = 0 by omega]; rfl
        rw [left i (by omega), last]
        exact bel _ (getD_mem out i (by omega)) _ (getD_mem rest a ha)
    · intro x hx y hy
      rcases List.mem_append.mp hx with hx | hx
      · exact bel x hx y (sub y hy)
      · rw [List.mem_singleton.mp hx]; exact mn y (sub y hy)
theorem OrderSorts : gimballaw06_OrderSorts.Pure := by
  intro l hm hb hl
  refine ⟨3000, ?_⟩
  unfold gimballaw06_OrderSorts.f
  rw [head_eq 2998, U.bs, if_pos rfl]
  by_cases h40 : (l.length : Int) > 40
  · rw [if_pos h40]
  · rw [if_neg h40, U.bs, if_pos (by simp only [List.length_nil]; omega), List.nil_append]
    refine sorts_l0 l (by omega) l.length 3000 l [] rfl (by simp) (fun x hx => U.wf_u64 (hl x hx)) (fun x hx => by cases hx) (fun i hi => by simp at hi) (fun x hx => by cases hx) (by omega)
end Go.Proofs.Ytlnpcbhbcmhbkaa.Pure
namespace Go.Proofs.Ytlnpcbhbcmhbkaa.PrintWords
theorem sized_ints : type_of% @Go.Proofs.YtlnpcbhbcmhbkaaW.PrintWords.sized_ints := @Go.Proofs.YtlnpcbhbcmhbkaaW.PrintWords.sized_ints
end Go.Proofs.Ytlnpcbhbcmhbkaa.PrintWords
