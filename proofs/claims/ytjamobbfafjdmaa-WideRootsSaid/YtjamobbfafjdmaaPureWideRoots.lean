/- The law WideRoots of layer 2: the root of any number below 2^128 is the greatest word whose square is no greater, and whether it is the square is told; no condition beyond the words' own range. -/
import Derived.Test.YtjamobbfafjdmaaQWideRootsx5
import Derived.Test.YtjamobbfafjdmaaU
import Derived.Test.YtjamobbfafjdmaaUB
set_option linter.unusedSimpArgs false
set_option linter.unusedVariables false
set_option exponentiation.threshold 5000
namespace Go.Proofs.Ytjamobbfafjdmaa.Pure
open Go.RowKit Go.Proofs.Ytjamobbfafjdmaa Go.Proofs.Ytjamobbfafjdmaa.QWideRoots Go.Proofs.YtjamobbfafjdmaaW.PrintWords Go.Proofs.YtjamobbfafjdmaaW.PrintLast
theorem mul64_eq (x y : Int) (hx0 : 0 ≤ x) (hx : x < 18446744073709551616) (hy0 : 0 ≤ y) (hy : y < 18446744073709551616) : bits_Mul64.f x y = some (x * y / 18446744073709551616, x * y % 18446744073709551616) := by
  have h := mul64_arith x y hx0 hx hy0 hy
  unfold bits_Mul64.f
  rw [and_low32 x hx0 hx, and_low32 y hy0 hy]
  simp only [U.wrap_u64]
  rw [and_low32 _ (Int.emod_nonneg _ (by decide)) (Int.emod_lt_of_pos _ (by decide)), h]
theorem wmul_eq (a b : Nat) (ha : a < 18446744073709551616) (hb : b < 18446744073709551616) : wide_Mul.f (a : Int) (b : Int) = some (((a * b / 18446744073709551616 : Nat) : Int), ((a * b % 18446744073709551616 : Nat) : Int)) := by
  unfold wide_Mul.f
  rw [mul64_eq _ _ (by omega) (by omega) (by omega) (by omega), Option.bind_some]
  simp
theorem mul_lt_sq {a b : Nat} (ha : a < 18446744073709551616) (hb : b < 18446744073709551616) : a * b < 340282366920938463463374607431768211456 := by
  have := Nat.mul_lt_mul'' ha hb
  omega
theorem wcmp_eq (k : Nat) (v u : Nat) : wide_Wide_Cmp.f (k + 1) ((v / 18446744073709551616 : Nat) : Int) ((v % 18446744073709551616 : Nat) : Int) ((u / 18446744073709551616 : Nat) : Int) ((u % 18446744073709551616 : Nat) : Int) = some (U.cmp3 v u) := by
  unfold wide_Wide_Cmp.f U.cmp3
  simp only [wide_Wide_Cmp.j0]
  by_cases h1 : ((v / 18446744073709551616 : Nat) : Int) < ((u / 18446744073709551616 : Nat) : Int)
  · rw [if_pos h1, if_pos (show (v : Int) < (u : Int) by omega)]; rfl
  · rw [if_neg h1]
    by_cases h2 : ((v / 18446744073709551616 : Nat) : Int) = ((u / 18446744073709551616 : Nat) : Int)
    · rw [if_pos h2]
      by_cases h3 : ((v % 18446744073709551616 : Nat) : Int) < ((u % 18446744073709551616 : Nat) : Int)
      · rw [if_pos (by simpa using h3), if_pos (by omega)]
      · rw [if_neg (by simpa using h3), h2, beq_self_eq_true, Bool.true_and]
        by_cases h4 : ((v % 18446744073709551616 : Nat) : Int) = ((u % 18446744073709551616 : Nat) : Int)
        · rw [if_pos (by simpa using h4), if_neg (by omega), if_neg (by omega)]
        · rw [if_neg (by simpa using h4), if_neg (by omega), if_pos (by omega)]
    · rw [if_neg h2, if_neg (by decide), beq_eq_false_iff_ne.mpr h2, Bool.false_and, if_neg (by decide), if_neg (by omega), if_pos (by omega)]
theorem sqrt_l0 (A : Nat) (n : Nat) : ∀ (k root : Nat), n ≤ 64 → n + 3 < k → root % 2 ^ n = 0 → root + 2 ^ n ≤ 18446744073709551616 → root * root ≤ A → A < (root + 2 ^ n) * (root + 2 ^ n) →
    ∃ r : Nat, wide_Wide_Sqrt.l0 k (root : Int) ((n : Int) - 1) ((A / 18446744073709551616 : Nat) : Int) ((A % 18446744073709551616 : Nat) : Int) = some ((r : Int), decide (r * r = A)) ∧ r * r ≤ A ∧ A < (r + 1) * (r + 1) ∧ r < 18446744073709551616 := by
  induction n with
  | zero =>
    intro k root _ hk _ hb h1 h2
    obtain ⟨k, rfl⟩ : ∃ m, k = m + 1 := ⟨k - 1, by omega⟩
    refine ⟨root, ?_, h1, by simpa using h2, by omega⟩
    rw [wide_Wide_Sqrt.l0, if_neg (by omega), wmul_eq root root (by omega) (by omega), Option.bind_some]
    congr 2
    rw [Bool.eq_iff_iff]
    simp only [Bool.and_eq_true, beq_iff_eq, decide_eq_true_eq]
    omega
  | succ n ih =>
    intro k root hn hk hm hb h1 h2
    obtain ⟨k, rfl⟩ : ∃ m, k = m + 2 := ⟨k - 2, by omega⟩
    have hp := Nat.two_pow_pos n
    have hps : 2 ^ (n + 1) = 2 * 2 ^ n := by rw [Nat.pow_succ, Nat.mul_comm]
    have hle : 2 ^ n ≤ 2 ^ 63 := Nat.pow_le_pow_right (by decide) (by omega)
    have e : ((n + 1 : Nat) : Int) - 1 = (n : Int) := by omega
    have hw : wrap64 ((n : Int) - 1) = (n : Int) - 1 := U.wrap64_id (by omega) (by omega)
    have es : shl .u64 1 (n : Int) = ((2 ^ n : Nat) : Int) := by
      unfold shl
      rw [Int.toNat_natCast, Nat.min_eq_left (by show n ≤ 64; omega), Int.one_mul]
      have : ((2 : Int) ^ n) = ((2 ^ n : Nat) : Int) := by simp
      rw [this, U.wrap_u64_id (by omega) (by omega)]
    have eo : bits .or .u64 (root : Int) ((2 ^ n : Nat) : Int) = ((root + 2 ^ n : Nat) : Int) := by
      have z : (root : Int) % 2 ^ (n + 1) = 0 := by
        have c : ((2 : Int) ^ (n + 1)) = ((2 ^ (n + 1) : Nat) : Int) := by simp
        rw [c]; omega
      have lt : ((2 ^ n : Nat) : Int) < 2 ^ (n + 1) := by
        have c : ((2 : Int) ^ (n + 1)) = ((2 ^ (n + 1) : Nat) : Int) := by simp
        rw [c]; omega
      rw [U.or_join (n + 1) (by omega) (by omega) z (by omega) (by omega) lt]; omega
    have m0 : root % 2 ^ n = 0 := by
      have := Nat.mod_mod_of_dvd root (Nat.pow_dvd_pow 2 (Nat.le_succ n))
      rw [← this, hm, Nat.zero_mod]
    have m1 : (root + 2 ^ n) % 2 ^ n = 0 := by rw [Nat.add_mod_right, m0]
    rw [wide_Wide_Sqrt.l0, e, if_pos (by omega), if_pos (by omega), es, eo, hw, wmul_eq (root + 2 ^ n) (root + 2 ^ n) (by omega) (by omega)]
    simp only [Option.bind_some]
    rw [wcmp_eq]
    simp only [Option.bind_some]
    have cs := U.cmp3_cases (((root + 2 ^ n) * (root + 2 ^ n) : Nat) : Int) (A : Int)
    by_cases hc : (root + 2 ^ n) * (root + 2 ^ n) ≤ A
    · rw [if_pos (by omega)]
      refine ih (k + 1) (root + 2 ^ n) (by omega) (by omega) m1 (by omega) hc ?_
      have : root + 2 ^ n + 2 ^ n = root + 2 ^ (n + 1) := by omega
      rw [this]; exact h2
    · rw [if_neg (by omega)]
      exact ih (k + 1) root (by omega) (by omega) m0 (by omega) h1 (by omega)
theorem sqrt_eq (A : Nat) (hA : A < 340282366920938463463374607431768211456) (k : Nat) (hk : 70 < k) :
    ∃ r : Nat, wide_Wide_Sqrt.f k ((A / 18446744073709551616 : Nat) : Int) ((A % 18446744073709551616 : Nat) : Int) = some ((r : Int), decide (r * r = A)) ∧ r * r ≤ A ∧ A < (r + 1) * (r + 1) ∧ r < 18446744073709551616 := by
  unfold wide_Wide_Sqrt.f
  exact sqrt_l0 A 64 k 0 (by omega) (by omega) (by decide) (by decide) (by omega) (by omega)
theorem root_unique {A r s : Nat} (h1 : r * r ≤ A) (h2 : A < (r + 1) * (r + 1)) (h3 : s * s ≤ A) (h4 : A < (s + 1) * (s + 1)) : r = s := by
  have a : r < s + 1 := Nat.mul_self_lt_mul_self_iff.mp (Nat.lt_of_le_of_lt h1 h4)
  have b : s < r + 1 := Nat.mul_self_lt_mul_self_iff.mp (Nat.lt_of_le_of_lt h3 h2)
  omega
theorem head_eq (k : Nat) (hk : 70 < k) : gimballaw02_head.f k = some true := by
  unfold gimballaw02_head.f
  have m := wmul_eq 9223372036854775808 4 (by decide) (by decide)
  obtain ⟨r, e, h1, h2, _⟩ := sqrt_eq (9223372036854775808 * 4) (by decide) k hk
  have hr : r = 6074000999 := root_unique h1 h2 (by decide) (by decide)
  rw [show ((9223372036854775808 : Nat) : Int) = 9223372036854775808 from rfl, show ((4 : Nat) : Int) = 4 from rfl] at m
  rw [m]
  simp only [Option.bind_some]
  rw [e]
  simp only [Option.bind_some]
  rw [hr]
  decide
theorem rd_nat (l : List Int) (n : Nat) : rd l (n : Int) = l.getD n 0 := by unfold rd; rw [Int.toNat_natCast]
theorem trim_l0 (l : List Int) (hb : U.isb l) (hn : l.length < 17592186044416) (n : Nat) : ∀ k, n ≤ l.length → n < k → gimbalref02_Trim.l0 k l (n : Int) = some (U.binl (U.val (l.take n))) := by
  induction n with
  | zero =>
    intro k _ hk
    obtain ⟨k, rfl⟩ : ∃ m, k = m + 1 := ⟨k - 1, by omega⟩
    rw [gimbalref02_Trim.l0, if_neg (by omega)]
    simp [U.val, U.binl_zero]
  | succ n ih =>
    intro k h hk
    obtain ⟨k, rfl⟩ : ∃ m, k = m + 1 := ⟨k - 1, by omega⟩
    have hw : wrap64 (((n + 1 : Nat) : Int) - 1) = (n : Int) := by rw [U.wrap64_id (by omega) (by omega)]; omega
    rw [gimbalref02_Trim.l0, if_pos (by omega), hw, if_pos (by omega), if_pos (by omega), rd_nat]
    rcases U.getD_isb hb n with h0 | h1
    · rw [if_pos h0, ih k (by omega) (by omega), U.val_take_succ (by omega), h0]
      simp
    · rw [if_neg (by rw [h1]; decide)]
      have e : (((n + 1 : Nat) : Int)).toNat = n + 1 := Int.toNat_natCast _
      have hlen : (l.take (n + 1)).length = n + 1 := by rw [List.length_take]; omega
      rw [Option.bind_some, if_pos (by omega), if_pos (by omega), e, if_pos (by simp [hlen]; omega), List.nil_append]
      congr 1
      refine (U.binl_val (U.isb_take hb _) (Or.inr ?_)).1.symm
      rw [List.take_succ_eq_append_getElem (by omega), List.getLast?_append]
      rw [List.getD_eq_getElem?_getD, List.getElem?_eq_getElem (by omega), Option.getD_some] at h1
      simp [h1]
theorem trim_eq (l : List Int) (hb : U.isb l) (hn : l.length < 17592186044416) (k : Nat) (hk : l.length < k) : gimbalref02_Trim.f k l = some (U.binl (U.val l)) := by
  unfold gimbalref02_Trim.f
  rw [trim_l0 l hb hn l.length k (Nat.le_refl _) hk, List.take_length]
theorem of_l0 (n : Nat) : ∀ (k : Nat) (acc : List Int), n < 18446744073709551616 → U.blen n < k → acc.length + U.blen n < 17592186044416 → gimbalref02_Of.l0 k (n : Int) acc = some (acc ++ U.binl n) := by
  induction n using Nat.strongRecOn with
  | ind n ih =>
    intro k acc hn hk hl
    obtain ⟨k, rfl⟩ : ∃ m, k = m + 1 := ⟨k - 1, by omega⟩
    by_cases h : n = 0
    · subst h
      rw [gimbalref02_Of.l0, if_neg (by decide), U.binl_zero, List.append_nil]
    · have hb := U.blen_pos h
      have e1 : IntKind.u64.wrap (Int.tdiv (n : Int) 2) = ((n / 2 : Nat) : Int) := by
        rw [U.tdiv_nn (by omega), U.wrap_u64_id (by omega) (by omega)]; omega
      have e2 : wrap64 (Int.tmod (n : Int) 2) = ((n % 2 : Nat) : Int) := by
        rw [U.tmod_nn (by omega), U.wrap64_id (by omega) (by omega)]; omega
      rw [gimbalref02_Of.l0, if_pos (by omega), if_pos (by omega), e1, e2, ih (n / 2) (by omega) k _ (by omega) (by omega) (by simp; omega), U.binl_pos h]
      simp
theorem of_eq (n : Nat) (hn : n < 18446744073709551616) (k : Nat) (hk : 65 < k) : gimbalref02_Of.f k (n : Int) = some (U.binl n) := by
  have := (U.blen_le 64 n).2 hn
  unfold gimbalref02_Of.f
  rw [of_l0 n k [] hn (by omega) (by simp; omega), List.nil_append]
theorem up_l0 (l : List Int) (hb : U.isb l) (n : Nat) (hs : n + l.length < 17592186044416) (d : Nat) : ∀ (k i : Nat), i + d = n → d + n + l.length + 1 < k →
    gimbalref02_Up.l0 k l (n : Int) (List.replicate i 0) (i : Int) = some (U.binl (U.val l * 2 ^ n)) := by
  induction d with
  | zero =>
    intro k i hi hk
    obtain ⟨k, rfl⟩ : ∃ m, k = m + 1 := ⟨k - 1, by omega⟩
    have e : i = n := by omega
    subst e
    rw [gimbalref02_Up.l0, if_neg (by omega), if_pos (by rw [List.length_replicate]; omega), trim_eq _ (U.isb_append (U.isb_replicate _) hb) (by simp; omega) k (by simp; omega), U.val_append, U.val_replicate, List.length_replicate, Option.bind_some, Nat.zero_add, Nat.mul_comm]
  | succ d ih =>
    intro k i hi hk
    obtain ⟨k, rfl⟩ : ∃ m, k = m + 1 := ⟨k - 1, by omega⟩
    have hw : wrap64 ((i : Int) + 1) = ((i + 1 : Nat) : Int) := by rw [U.wrap64_id (by omega) (by omega)]; omega
    have hr : List.replicate i (0 : Int) ++ [0] = List.replicate (i + 1) 0 := by rw [List.replicate_succ']
    rw [gimbalref02_Up.l0, if_pos (by omega), if_pos (by rw [List.length_replicate]; omega), hr, hw]
    exact ih k (i + 1) (by omega) (by omega)
theorem up_eq (l : List Int) (hb : U.isb l) (n : Nat) (hs : n + l.length < 17592186044416) (k : Nat) (hk : 2 * n + l.length + 1 < k) : gimbalref02_Up.f k l (n : Int) = some (U.binl (U.val l * 2 ^ n)) := by
  unfold gimbalref02_Up.f
  exact up_l0 l hb n hs n k 0 (by omega) (by omega)
theorem up_binl (a n : Nat) (hs : n + U.blen a < 17592186044416) (k : Nat) (hk : 2 * n + U.blen a + 1 < k) : gimbalref02_Up.f k (U.binl a) (n : Int) = some (U.binl (a * 2 ^ n)) := by
  rw [up_eq _ (U.isb_binl a) n hs k hk, U.val_binl]
theorem cmp_l0 (l m : List Int) (hl : U.isb l) (hm : U.isb m) (n : Nat) : ∀ (k : Nat), n ≤ l.length → n ≤ m.length → n < k → n < 9223372036854775808 → gimbalref02_Cmp.l0 k l m ((n : Int) - 1) = some (U.cmp3 (U.val (l.take n)) (U.val (m.take n))) := by
  induction n with
  | zero =>
    intro k _ _ hk _
    obtain ⟨k, rfl⟩ : ∃ m, k = m + 1 := ⟨k - 1, by omega⟩
    rw [gimbalref02_Cmp.l0, if_neg (by omega)]
    simp [U.val, U.cmp3]
  | succ n ih =>
    intro k h1 h2 hk hb
    obtain ⟨k, rfl⟩ : ∃ m, k = m + 1 := ⟨k - 1, by omega⟩
    have e : ((n + 1 : Nat) : Int) - 1 = (n : Int) := by omega
    have hw : wrap64 ((n : Int) - 1) = (n : Int) - 1 := U.wrap64_id (by omega) (by omega)
    have b1 := U.val_lt (U.isb_take hl n)
    have b2 := U.val_lt (U.isb_take hm n)
    rw [List.length_take, Nat.min_eq_left (by omega)] at b1 b2
    have c1 := U.val_take_succ (l := l) (n := n) (by omega)
    have c2 := U.val_take_succ (l := m) (n := n) (by omega)
    rw [gimbalref02_Cmp.l0, e, if_pos (by omega), if_pos (by omega), if_pos (by omega), if_pos (by omega), rd_nat, rd_nat, hw]
    have g1 := U.getD_isb hl n
    have g2 := U.getD_isb hm n
    by_cases hq : l.getD n 0 = m.getD n 0
    · rw [if_pos hq, ih k (by omega) (by omega) (by omega) (by omega), c1, c2, hq]
      unfold U.cmp3
      congr 1
      repeat (any_goals split)
      all_goals omega
    · rw [if_neg hq]
      by_cases hlt : l.getD n 0 < m.getD n 0
      · have x1 : l.getD n 0 = 0 := by omega
        have x2 : m.getD n 0 = 1 := by omega
        rw [if_pos hlt, c1, c2, x1, x2]
        have : U.cmp3 ((U.val (l.take n) + 2 ^ n * (0 : Int).toNat : Nat) : Int) ((U.val (m.take n) + 2 ^ n * (1 : Int).toNat : Nat) : Int) = -1 := by
          unfold U.cmp3
          have t0 : (0 : Int).toNat = 0 := rfl
          have t1 : (1 : Int).toNat = 1 := rfl
          rw [t0, t1, if_pos (by omega)]
        rw [this]
      · have x1 : l.getD n 0 = 1 := by omega
        have x2 : m.getD n 0 = 0 := by omega
        rw [if_neg hlt, c1, c2, x1, x2]
        have : U.cmp3 ((U.val (l.take n) + 2 ^ n * (1 : Int).toNat : Nat) : Int) ((U.val (m.take n) + 2 ^ n * (0 : Int).toNat : Nat) : Int) = 1 := by
          unfold U.cmp3
          have t0 : (0 : Int).toNat = 0 := rfl
          have t1 : (1 : Int).toNat = 1 := rfl
          rw [t0, t1, if_neg (by omega), if_pos (by omega)]
        rw [this]
theorem refcmp_eq (l m : List Int) (hl : U.isb l) (hm : U.isb m) (ql : l.length < 17592186044416) (qm : m.length < 17592186044416) (k : Nat) (hk : l.length < k) (hk2 : m.length < k) : gimbalref02_Cmp.f k l m = some (U.cmp3 (U.val l) (U.val m)) := by
  unfold gimbalref02_Cmp.f
  rw [trim_eq l hl ql k hk, trim_eq m hm qm k hk2]
  simp only [Option.bind_some]
  have b1 := (U.blen_le l.length (U.val l)).2 (U.val_lt hl)
  have b2 := (U.blen_le m.length (U.val m)).2 (U.val_lt hm)
  have d1 : (U.binl (U.val l)).length = U.blen (U.val l) := rfl
  have d2 : (U.binl (U.val m)).length = U.blen (U.val m) := rfl
  have m1 := fun h : U.val m ≤ U.val l => U.blen_mono h
  have m2 := fun h : U.val l ≤ U.val m => U.blen_mono h
  rw [d1, d2]
  by_cases he : (U.blen (U.val l) : Int) = (U.blen (U.val m) : Int)
  · have he' : U.blen (U.val l) = U.blen (U.val m) := by omega
    have c := cmp_l0 (U.binl (U.val l)) (U.binl (U.val m)) (U.isb_binl _) (U.isb_binl _) (U.blen (U.val l)) k (Nat.le_refl _) (by rw [d2, he']; exact Nat.le_refl _) (by omega) (by omega)
    rw [if_pos he, U.wrap64_id (by omega) (by omega), c]
    have t1 : (U.binl (U.val l)).take (U.blen (U.val l)) = U.binl (U.val l) := by rw [← d1, List.take_length]
    have t2 : (U.binl (U.val m)).take (U.blen (U.val l)) = U.binl (U.val m) := by rw [he', ← d2, List.take_length]
    rw [t1, t2, U.val_binl, U.val_binl]
  · rw [if_neg he]
    unfold U.cmp3
    by_cases hlt : (U.blen (U.val l) : Int) < (U.blen (U.val m) : Int)
    · rw [if_pos hlt, if_pos (by omega)]
    · rw [if_neg hlt, if_neg (by omega), if_pos (by omega)]
theorem refcmp_binl (a b : Nat) (ql : U.blen a < 17592186044416) (qm : U.blen b < 17592186044416) (k : Nat) (hk : U.blen a < k) (hk2 : U.blen b < k) : gimbalref02_Cmp.f k (U.binl a) (U.binl b) = some (U.cmp3 a b) := by
  rw [refcmp_eq _ _ (U.isb_binl a) (U.isb_binl b) ql qm k hk hk2, U.val_binl, U.val_binl]
theorem val_drop (l : List Int) (i : Nat) : U.val (l.drop i) = (l.getD i 0).toNat + 2 * U.val (l.drop (i + 1)) := by
  by_cases h : i < l.length
  · rw [List.drop_eq_getElem_cons h, List.getD_eq_getElem?_getD, List.getElem?_eq_getElem h, Option.getD_some]; rfl
  · rw [List.drop_eq_nil_of_le (by omega), List.drop_eq_nil_of_le (by omega), List.getD_eq_getElem?_getD, List.getElem?_eq_none (by omega)]; rfl
theorem val_snoc (out : List Int) (x : Int) : U.val (out ++ [x]) = U.val out + 2 ^ out.length * x.toNat := by
  rw [U.val_append]; show _ + _ * (x.toNat + 2 * 0) = _; rw [Nat.mul_zero, Nat.add_zero]
theorem add_l0 (l m : List Int) (hl : U.isb l) (hm : U.isb m) (e : Nat) : ∀ (k i : Nat) (out : List Int) (c : Nat), c ≤ 1 → l.length ≤ i + e → m.length ≤ i + e → U.isb out → out.length = i → i + e < 17592186044000 →
    2 * e + 6 + (i + e + 2) < k + (1 - c) * 0 → gimbalref02_Add.l0 k l m out (c : Int) (i : Int) = some (U.binl (U.val out + 2 ^ i * (c + U.val (l.drop i) + U.val (m.drop i)))) := by
  have stop : ∀ (k i : Nat) (out : List Int), l.length ≤ i → m.length ≤ i → U.isb out → out.length = i → i < 17592186044400 → i + 3 < k →
      gimbalref02_Add.l0 k l m out 0 (i : Int) = some (U.binl (U.val out)) := by
    intro k i out h1 h2 hb ho hs hk
    obtain ⟨k, rfl⟩ : ∃ m, k = m + 2 := ⟨k - 2, by omega⟩
    rw [gimbalref02_Add.l0, if_neg (by omega), if_neg (by omega)]
    rw [gimbalref02_Add.j1, if_neg (by decide), trim_eq out hb (by omega) k (by omega), Option.bind_some]
  have step : ∀ (k i : Nat) (out : List Int) (c : Nat), c ≤ 1 → out.length = i → i < 17592186044400 → (i < l.length ∨ i < m.length ∨ c = 1) →
      gimbalref02_Add.l0 (k + 2) l m out (c : Int) (i : Int) = gimbalref02_Add.l0 k l m (out ++ [(((c + (l.getD i 0).toNat + (m.getD i 0).toNat) % 2 : Nat) : Int)]) (((c + (l.getD i 0).toNat + (m.getD i 0).toNat) / 2 : Nat) : Int) ((i + 1 : Nat) : Int) := by
    intro k i out c hc ho hs hor
    have g1 := U.getD_isb hl i
    have g2 := U.getD_isb hm i
    have j : gimbalref02_Add.j1 (k + 1) l m out (c : Int) (i : Int) true = gimbalref02_Add.l0 k l m (out ++ [(((c + (l.getD i 0).toNat + (m.getD i 0).toNat) % 2 : Nat) : Int)]) (((c + (l.getD i 0).toNat + (m.getD i 0).toNat) / 2 : Nat) : Int) ((i + 1 : Nat) : Int) := by
      have hi : wrap64 ((i : Int) + 1) = ((i + 1 : Nat) : Int) := by rw [U.wrap64_id (by omega) (by omega)]; omega
      rw [gimbalref02_Add.j1, if_pos rfl, rd_nat, rd_nat, hi]
      have z1 : ¬ (i : Int) < (l.length : Int) → l.getD i 0 = 0 := fun h => by rw [List.getD_eq_getElem?_getD, List.getElem?_eq_none (by omega)]; rfl
      have z2 : ¬ (i : Int) < (m.length : Int) → m.getD i 0 = 0 := fun h => by rw [List.getD_eq_getElem?_getD, List.getElem?_eq_none (by omega)]; rfl
      have fin : ∀ n : Int, n = (c : Int) + l.getD i 0 + m.getD i 0 → (Int.tmod n 2 = (((c + (l.getD i 0).toNat + (m.getD i 0).toNat) % 2 : Nat) : Int)) ∧ wrap64 (Int.tdiv n 2) = (((c + (l.getD i 0).toNat + (m.getD i 0).toNat) / 2 : Nat) : Int) := by
        intro n hn
        rw [U.tmod_nn (by omega), U.tdiv_nn (by omega), U.wrap64_id (by omega) (by omega)]
        omega
      by_cases c1 : (i : Int) < (l.length : Int)
      · rw [if_pos c1, if_pos (by omega)]
        have w1 : wrap64 ((c : Int) + l.getD i 0) = (c : Int) + l.getD i 0 := U.wrap64_id (by omega) (by omega)
        by_cases c2 : (i : Int) < (m.length : Int)
        · have w2 : wrap64 (wrap64 ((c : Int) + l.getD i 0) + m.getD i 0) = (c : Int) + l.getD i 0 + m.getD i 0 := by rw [w1]; exact U.wrap64_id (by omega) (by omega)
          obtain ⟨f1, f2⟩ := fin _ rfl
          rw [if_pos c2, if_pos (by omega), w2, f1, f2]
        · have y := z2 c2
          obtain ⟨f1, f2⟩ := fin ((c : Int) + l.getD i 0) (by omega)
          rw [if_neg c2, if_pos (by omega), w1, f1, f2]
      · have x := z1 c1
        rw [if_neg c1]
        by_cases c2 : (i : Int) < (m.length : Int)
        · have w1 : wrap64 ((c : Int) + m.getD i 0) = (c : Int) + m.getD i 0 := U.wrap64_id (by omega) (by omega)
          obtain ⟨f1, f2⟩ := fin ((c : Int) + m.getD i 0) (by omega)
          rw [if_pos c2, if_pos (by omega), if_pos (by omega), w1, f1, f2]
        · have y := z2 c2
          obtain ⟨f1, f2⟩ := fin (c : Int) (by omega)
          rw [if_neg c2, if_pos (by omega), f1, f2]
    rw [gimbalref02_Add.l0]
    by_cases c1 : (i : Int) < (l.length : Int)
    · rw [if_pos c1, j]
    · rw [if_neg c1]
      by_cases c2 : (i : Int) < (m.length : Int)
      · rw [if_pos c2, j]
      · have : decide ((c : Int) > 0) = true := by simp; omega
        rw [if_neg c2, this, j]
  have value : ∀ (i : Nat) (out : List Int) (c : Nat), c ≤ 1 → out.length = i →
      U.val (out ++ [(((c + (l.getD i 0).toNat + (m.getD i 0).toNat) % 2 : Nat) : Int)]) + 2 ^ (i + 1) * ((c + (l.getD i 0).toNat + (m.getD i 0).toNat) / 2 + U.val (l.drop (i + 1)) + U.val (m.drop (i + 1)))
        = U.val out + 2 ^ i * (c + U.val (l.drop i) + U.val (m.drop i)) := by
    intro i out c hc ho
    rw [val_snoc, ho, val_drop l i, val_drop m i, Int.toNat_natCast, Nat.pow_succ, Nat.mul_assoc, Nat.add_assoc, ← Nat.mul_add]
    congr 2
    omega
  have bit : ∀ (i : Nat) (out : List Int) (n : Nat), U.isb out → U.isb (out ++ [((n % 2 : Nat) : Int)]) := fun i out n hb => U.isb_append hb (U.isb_cons (by omega) U.isb_nil)
  induction e with
  | zero =>
    intro k i out c hc h1 h2 hb ho hs hk
    have d1 : U.val (l.drop i) = 0 := by rw [List.drop_eq_nil_of_le (by omega)]; rfl
    have d2 : U.val (m.drop i) = 0 := by rw [List.drop_eq_nil_of_le (by omega)]; rfl
    by_cases c0 : c = 0
    · subst c0
      have := stop k i out (by omega) (by omega) hb ho (by omega) (by omega)
      rw [show ((0 : Nat) : Int) = 0 from rfl, this, d1, d2]
      simp
    · have c1 : c = 1 := by omega
      obtain ⟨k, rfl⟩ : ∃ m, k = m + 2 := ⟨k - 2, by omega⟩
      rw [step k i out c hc ho (by omega) (Or.inr (Or.inr c1))]
      have v := value i out c hc ho
      have d3 : U.val (l.drop (i + 1)) = 0 := by rw [List.drop_eq_nil_of_le (by omega)]; rfl
      have d4 : U.val (m.drop (i + 1)) = 0 := by rw [List.drop_eq_nil_of_le (by omega)]; rfl
      have z1 : l.getD i 0 = 0 := by rw [List.getD_eq_getElem?_getD, List.getElem?_eq_none (by omega)]; rfl
      have z2 : m.getD i 0 = 0 := by rw [List.getD_eq_getElem?_getD, List.getElem?_eq_none (by omega)]; rfl
      have q : (c + (l.getD i 0).toNat + (m.getD i 0).toNat) / 2 = 0 := by rw [z1, z2, c1]; decide
      rw [q, d3, d4] at v
      rw [q, show ((0 : Nat) : Int) = 0 from rfl, stop k (i + 1) _ (by omega) (by omega) (bit i out _ hb) (by simp [ho]) (by omega) (by omega), ← v]
      simp
  | succ e ih =>
    intro k i out c hc h1 h2 hb ho hs hk
    by_cases any : i < l.length ∨ i < m.length ∨ c = 1
    · obtain ⟨k, rfl⟩ : ∃ m, k = m + 2 := ⟨k - 2, by omega⟩
      have g1 := U.getD_isb hl i
      have g2 := U.getD_isb hm i
      rw [step k i out c hc ho (by omega) any]
      rw [ih k (i + 1) _ _ (by omega) (by omega) (by omega) (bit i out _ hb) (by simp [ho]) (by omega) (by omega), value i out c hc ho]
    · have c0 : c = 0 := by omega
      subst c0
      have d1 : U.val (l.drop i) = 0 := by rw [List.drop_eq_nil_of_le (by omega)]; rfl
      have d2 : U.val (m.drop i) = 0 := by rw [List.drop_eq_nil_of_le (by omega)]; rfl
      have := stop k i out (by omega) (by omega) hb ho (by omega) (by omega)
      rw [show ((0 : Nat) : Int) = 0 from rfl, this, d1, d2]
      simp
theorem add_eq (l m : List Int) (hl : U.isb l) (hm : U.isb m) (n : Nat) (h1 : l.length ≤ n) (h2 : m.length ≤ n) (hn : n < 17592186044000) (k : Nat) (hk : 3 * n + 8 < k) : gimbalref02_Add.f k l m = some (U.binl (U.val l + U.val m)) := by
  unfold gimbalref02_Add.f
  have := add_l0 l m hl hm n k 0 [] 0 (by omega) (by omega) (by omega) U.isb_nil rfl (by omega) (by omega)
  rw [show ((0 : Nat) : Int) = 0 from rfl] at this
  rw [this]
  simp [U.val]
theorem add_binl (a b n : Nat) (h1 : U.blen a ≤ n) (h2 : U.blen b ≤ n) (hn : n < 17592186044000) (k : Nat) (hk : 3 * n + 8 < k) : gimbalref02_Add.f k (U.binl a) (U.binl b) = some (U.binl (a + b)) := by
  rw [add_eq _ _ (U.isb_binl a) (U.isb_binl b) n h1 h2 hn k hk, U.val_binl, U.val_binl]
theorem mul_l0 (l m : List Int) (hl : U.isb l) (hm : U.isb m) (L : Nat) (h1 : l.length + m.length ≤ L) (hL : L < 1000000) (d : Nat) : ∀ (k i : Nat), i + d = l.length → d + 4 * L + 20 < k →
    gimbalref02_Mul.l0 k m (U.binl (U.val (l.take i) * U.val m)) l (l.length : Int) (i : Int) = some (U.binl (U.val l * U.val m)) := by
  induction d with
  | zero =>
    intro k i hi hk
    obtain ⟨k, rfl⟩ : ∃ m, k = m + 1 := ⟨k - 1, by omega⟩
    rw [gimbalref02_Mul.l0, if_neg (by omega), List.take_of_length_le (by omega)]
  | succ d ih =>
    intro k i hi hk
    obtain ⟨k, rfl⟩ : ∃ m, k = m + 1 := ⟨k - 1, by omega⟩
    have hw : wrap64 ((i : Int) + 1) = ((i + 1 : Nat) : Int) := by rw [U.wrap64_id (by omega) (by omega)]; omega
    have g := U.getD_isb hl i
    have vt := U.val_take_succ (l := l) (n := i) (by omega)
    rw [gimbalref02_Mul.l0, if_pos (by omega), if_pos (by omega), if_pos (by omega), hw, rd_nat]
    rcases g with g | g
    · rw [if_neg (by rw [g]; decide)]
      rw [g] at vt
      have := ih k (i + 1) (by omega) (by omega)
      rw [vt] at this
      simpa using this
    · rw [if_pos g, up_eq m hm i (by omega) k (by omega), Option.bind_some]
      rw [g] at vt
      have b1 : U.val (l.take i) * U.val m < 2 ^ L := by
        have p1 := U.val_lt (U.isb_take hl i)
        have p2 := U.val_lt hm
        have p3 : (l.take i).length ≤ l.length := by rw [List.length_take]; omega
        have p4 : 2 ^ (l.take i).length * 2 ^ m.length ≤ 2 ^ L := by rw [← Nat.pow_add]; exact Nat.pow_le_pow_right (by decide) (by omega)
        exact Nat.lt_of_lt_of_le (Nat.mul_lt_mul'' p1 p2) p4
      have b2 : U.val m * 2 ^ i < 2 ^ L := by
        have p2 := U.val_lt hm
        have p4 : 2 ^ m.length * 2 ^ i ≤ 2 ^ L := by rw [← Nat.pow_add]; exact Nat.pow_le_pow_right (by decide) (by omega)
        exact Nat.lt_of_lt_of_le (Nat.mul_lt_mul_of_pos_right p2 (Nat.two_pow_pos i)) p4
      rw [add_binl _ _ L ((U.blen_le _ _).2 b1) ((U.blen_le _ _).2 b2) (by omega) k (by omega), Option.bind_some]
      have := ih k (i + 1) (by omega) (by omega)
      rw [vt] at this
      have e : (U.val (l.take i) + 2 ^ i * (1 : Int).toNat) * U.val m = U.val (l.take i) * U.val m + U.val m * 2 ^ i := by
        rw [show (1 : Int).toNat = 1 from rfl, Nat.mul_one, Nat.add_mul, Nat.mul_comm (2 ^ i)]
      rw [e] at this
      exact this
theorem mul_eq (l m : List Int) (hl : U.isb l) (hm : U.isb m) (L : Nat) (h1 : l.length + m.length ≤ L) (hL : L < 1000000) (k : Nat) (hk : 5 * L + 20 < k) : gimbalref02_Mul.f k l m = some (U.binl (U.val l * U.val m)) := by
  unfold gimbalref02_Mul.f
  have := mul_l0 l m hl hm L h1 hL l.length k 0 (by omega) (by omega)
  rw [show ((0 : Nat) : Int) = 0 from rfl] at this
  simpa [U.val, U.binl_zero] using this
theorem mul_binl (a b L : Nat) (h1 : U.blen a + U.blen b ≤ L) (hL : L < 1000000) (k : Nat) (hk : 5 * L + 20 < k) : gimbalref02_Mul.f k (U.binl a) (U.binl b) = some (U.binl (a * b)) := by
  rw [mul_eq _ _ (U.isb_binl a) (U.isb_binl b) L h1 hL k hk, U.val_binl, U.val_binl]
theorem list_eq (v : Nat) (hv : v < 340282366920938463463374607431768211456) (k : Nat) (hk : 1000 < k) : gimballaw02_list.f k ((v / 18446744073709551616 : Nat) : Int) ((v % 18446744073709551616 : Nat) : Int) = some (U.binl v) := by
  unfold gimballaw02_list.f
  have l1 := (U.blen_le 64 (v % 18446744073709551616)).2 (by omega)
  have l2 := (U.blen_le 64 (v / 18446744073709551616)).2 (by omega)
  rw [of_eq _ (by omega) k (by omega), of_eq _ (by omega) k (by omega)]
  simp only [U.bs]
  have u := up_binl (v / 18446744073709551616) 64 (by omega) k (by omega)
  rw [show ((64 : Nat) : Int) = 64 from rfl] at u
  have e : 2 ^ 64 = 18446744073709551616 := by decide
  rw [u, U.bs, e]
  have l3 := (U.blen_le 128 (v / 18446744073709551616 * 18446744073709551616)).2 (by omega)
  rw [add_binl _ _ 128 (by omega) l3 (by omega) k (by omega), U.bs]
  congr 2; omega
theorem roots_j0 (k : Nat) (x1 A : Nat) (sq : Bool) (hA : A < 340282366920938463463374607431768211456) (hx : x1 < 18446744073709551616) (hs : sq = true → A = x1 * x1) (hk : 10000 < k) :
    gimballaw02_WideRoots.j0 k (x1 : Int) sq ((A / 18446744073709551616 : Nat) : Int) ((A % 18446744073709551616 : Nat) : Int) = some true := by
  obtain ⟨k, rfl⟩ : ∃ m, k = m + 1 := ⟨k - 1, by omega⟩
  obtain ⟨r, hr, h1, h2, hq⟩ := sqrt_eq A hA k (by omega)
  have lr := (U.blen_le 64 r).2 (by omega)
  have l1 := (U.blen_le 65 (r + 1)).2 (by omega)
  have one : U.blen 1 ≤ 65 := (U.blen_le _ _).2 (by decide)
  have lA := (U.blen_le 128 A).2 (by rw [show (2 : Nat) ^ 128 = 340282366920938463463374607431768211456 by decide]; exact hA)
  have rr := mul_lt_sq (a := r) (b := r) (by omega) (by omega)
  have lrr := (U.blen_le 128 (r * r)).2 (by rw [show (2 : Nat) ^ 128 = 340282366920938463463374607431768211456 by decide]; exact rr)
  have lyy : U.blen ((r + 1) * (r + 1)) ≤ 130 := by
    refine (U.blen_le _ _).2 ?_
    have : (r + 1) * (r + 1) ≤ 18446744073709551616 * 18446744073709551616 := Nat.mul_le_mul (by omega) (by omega)
    have e : (2 : Nat) ^ 130 = 1361129467683753853853498429727072845824 := by decide
    omega
  have ad := add_binl r 1 65 (by omega) one (by omega) k (by omega)
  rw [U.binl_one] at ad
  have c1 := U.cmp3_cases ((r * r : Nat) : Int) ((A : Nat) : Int)
  have c2 := U.cmp3_cases (((r + 1) * (r + 1) : Nat) : Int) ((A : Nat) : Int)
  rw [gimballaw02_WideRoots.j0, hr, U.bs]
  simp only
  rw [of_eq r (by omega) k (by omega), U.bs, ad, U.bs, mul_binl r r 128 (by omega) (by omega) k (by omega), U.bs, list_eq A hA k (by omega), U.bs, refcmp_binl (r * r) A (by omega) (by omega) k (by omega) (by omega), U.bs, if_pos (by omega),
    mul_binl (r + 1) (r + 1) 130 (by omega) (by omega) k (by omega), U.bs, U.bs, refcmp_binl ((r + 1) * (r + 1)) A (by omega) (by omega) k (by omega) (by omega), U.bs, if_pos (by omega), wmul_eq r r (by omega) (by omega), U.bs]
  simp only
  have key : (decide (r * r = A) == (((r * r / 18446744073709551616 : Nat) : Int) == ((A / 18446744073709551616 : Nat) : Int) && (((r * r % 18446744073709551616 : Nat) : Int) == ((A % 18446744073709551616 : Nat) : Int)))) = true := by
    rw [beq_iff_eq, Bool.eq_iff_iff]
    simp only [Bool.and_eq_true, beq_iff_eq, decide_eq_true_eq]
    obtain ⟨z, hz⟩ : ∃ z, z = r * r := ⟨_, rfl⟩
    rw [← hz]
    omega
  rw [if_pos key]
  cases sq with
  | false => rw [if_neg (by decide)]
  | true =>
    have e := hs rfl
    have same : r = x1 := root_unique h1 h2 (by omega) (by rw [e]; exact Nat.mul_self_lt_mul_self (by omega))
    have q : decide (r * r = A) = true := by rw [decide_eq_true_eq, same, e]
    rw [if_pos rfl, if_pos q, same]
    simp
theorem WideRoots : gimballaw02_WideRoots.Pure := by
  intro h l y sq wh wl wy
  obtain ⟨h0, h1⟩ := U.wf_u64 wh
  obtain ⟨l0, l1⟩ := U.wf_u64 wl
  obtain ⟨y0, y1⟩ := U.wf_u64 wy
  obtain ⟨h, rfl⟩ := Int.eq_ofNat_of_zero_le h0
  obtain ⟨l, rfl⟩ := Int.eq_ofNat_of_zero_le l0
  obtain ⟨y, rfl⟩ := Int.eq_ofNat_of_zero_le y0
  obtain ⟨v, vb, e1, e2⟩ : ∃ v : Nat, v < 340282366920938463463374607431768211456 ∧ h = v / 18446744073709551616 ∧ l = v % 18446744073709551616 := ⟨h * 18446744073709551616 + l, by omega, by omega, by omega⟩
  subst e1 e2
  refine ⟨20000, ?_⟩
  unfold gimballaw02_WideRoots.f
  rw [head_eq 20000 (by decide), U.bs, if_pos rfl]
  cases sq with
  | true =>
    rw [if_pos rfl, wmul_eq y y (by omega) (by omega), U.bs]
    exact roots_j0 20000 y (y * y) true (mul_lt_sq (by omega) (by omega)) (by omega) (fun _ => rfl) (by decide)
  | false =>
    rw [if_neg (by decide)]
    exact roots_j0 20000 y v false vb (by omega) (fun h => absurd h (by decide)) (by decide)
end Go.Proofs.Ytjamobbfafjdmaa.Pure
