/- The law WideSums of layer 2: sum, difference, order, length and zero of any two numbers below 2^128 are the reference's; no condition beyond the words' own range. -/
import Derived.Test.YtjamobbfafjdmaaQWideSumsx6
import Derived.Test.YtjamobbfafjdmaaU
import Derived.Test.YtjamobbfafjdmaaUB
import Derived.Test.YtjamobbfafjdmaaUX
set_option linter.unusedSimpArgs false
set_option linter.unusedVariables false
set_option exponentiation.threshold 5000
namespace Go.Proofs.Ytjamobbfafjdmaa.Pure
open Go.RowKit Go.Proofs.Ytjamobbfafjdmaa Go.Proofs.Ytjamobbfafjdmaa.QWideSums Go.Proofs.YtjamobbfafjdmaaW.PrintWords Go.Proofs.YtjamobbfafjdmaaW.PrintLast
theorem mul64_eq (x y : Int) (hx0 : 0 ≤ x) (hx : x < 18446744073709551616) (hy0 : 0 ≤ y) (hy : y < 18446744073709551616) : bits_Mul64.f x y = some (x * y / 18446744073709551616, x * y % 18446744073709551616) := by
  have h := mul64_arith x y hx0 hx hy0 hy
  unfold bits_Mul64.f
  rw [and_low32 x hx0 hx, and_low32 y hy0 hy]
  simp only [U.wrap_u64]
  rw [and_low32 _ (Int.emod_nonneg _ (by decide)) (Int.emod_lt_of_pos _ (by decide)), h]
theorem wmul_eq (a b : Nat) (ha : a < 18446744073709551616) (hb : b < 18446744073709551616) : wide_Mul.f (a : Int) (b : Int) = some (((a * b / 18446744073709551616 : Nat) : Int), ((a * b % 18446744073709551616 : Nat) : Int)) := by
  unfold wide_Mul.f
  rw [mul64_eq _ _ (by omega) (by omega) (by omega) (by omega), Option.bind_some]
  simp
theorem mul_lt_sq {a b : Nat} (ha : a < 18446744073709551616) (hb : b < 18446744073709551616) : a * b < 340282366920938463463374607431768211456 := by
  have := Nat.mul_lt_mul'' ha hb
  omega
theorem wcmp_eq (k : Nat) (v u : Nat) : wide_Wide_Cmp.f (k + 1) ((v / 18446744073709551616 : Nat) : Int) ((v % 18446744073709551616 : Nat) : Int) ((u / 18446744073709551616 : Nat) : Int) ((u % 18446744073709551616 : Nat) : Int) = some (U.cmp3 v u) := by
  unfold wide_Wide_Cmp.f U.cmp3
  simp only [wide_Wide_Cmp.j0]
  by_cases h1 : ((v / 18446744073709551616 : Nat) : Int) < ((u / 18446744073709551616 : Nat) : Int)
  · rw [if_pos h1, if_pos (show (v : Int) < (u : Int) by omega)]; rfl
  · rw [if_neg h1]
    by_cases h2 : ((v / 18446744073709551616 : Nat) : Int) = ((u / 18446744073709551616 : Nat) : Int)
    · rw [if_pos h2]
      by_cases h3 : ((v % 18446744073709551616 : Nat) : Int) < ((u % 18446744073709551616 : Nat) : Int)
      · rw [if_pos (by simpa using h3), if_pos (by omega)]
      · rw [if_neg (by simpa using h3), h2, beq_self_eq_true, Bool.true_and]
        by_cases h4 : ((v % 18446744073709551616 : Nat) : Int) = ((u % 18446744073709551616 : Nat) : Int)
        · rw [if_pos (by simpa using h4), if_neg (by omega), if_neg (by omega)]
        · rw [if_neg (by simpa using h4), if_neg (by omega), if_pos (by omega)]
    · rw [if_neg h2, if_neg (by decide), beq_eq_false_iff_ne.mpr h2, Bool.false_and, if_neg (by decide), if_neg (by omega), if_pos (by omega)]
theorem sqrt_l0 (A : Nat) (n : Nat) : ∀ (k root : Nat), n ≤ 64 → n + 3 < k → root % 2 ^ n = 0 → root + 2 ^ n ≤ 18446744073709551616 → root * root ≤ A → A < (root + 2 ^ n) * (root + 2 ^ n) →
    ∃ r : Nat, wide_Wide_Sqrt.l0 k (root : Int) ((n : Int) - 1) ((A / 18446744073709551616 : Nat) : Int) ((A % 18446744073709551616 : Nat) : Int) = some ((r : Int), decide (r * r = A)) ∧ r * r ≤ A ∧ A < (r + 1) * (r + 1) ∧ r < 18446744073709551616 := by
  induction n with
  | zero =>
    intro k root _ hk _ hb h1 h2
    obtain ⟨k, rfl⟩ : ∃ m, k = m + 1 := ⟨k - 1, by omega⟩
    refine ⟨root, ?_, h1, by simpa using h2, by omega⟩
    rw [wide_Wide_Sqrt.l0, if_neg (by omega), wmul_eq root root (by omega) (by omega), Option.bind_some]
    congr 2
    rw [Bool.eq_iff_iff]
    simp only [Bool.and_eq_true, beq_iff_eq, decide_eq_true_eq]
    omega
  | succ n ih =>
    intro k root hn hk hm hb h1 h2
    obtain ⟨k, rfl⟩ : ∃ m, k = m + 2 := ⟨k - 2, by omega⟩
    have hp := Nat.two_pow_pos n
    have hps : 2 ^ (n + 1) = 2 * 2 ^ n := by rw [Nat.pow_succ, Nat.mul_comm]
    have hle : 2 ^ n ≤ 2 ^ 63 := Nat.pow_le_pow_right (by decide) (by omega)
    have e : ((n + 1 : Nat) : Int) - 1 = (n : Int) := by omega
    have hw : wrap64 ((n : Int) - 1) = (n : Int) - 1 := U.wrap64_id (by omega) (by omega)
    have es : shl .u64 1 (n : Int) = ((2 ^ n : Nat) : Int) := by
      unfold shl
      rw [Int.toNat_natCast, Nat.min_eq_left (by show n ≤ 64; omega), Int.one_mul]
      have : ((2 : Int) ^ n) = ((2 ^ n : Nat) : Int) := by simp
      rw [this, U.wrap_u64_id (by omega) (by omega)]
    have eo : bits .or .u64 (root : Int) ((2 ^ n : Nat) : Int) = ((root + 2 ^ n : Nat) : Int) := by
      have z : (root : Int) % 2 ^ (n + 1) = 0 := by
        have c : ((2 : Int) ^ (n + 1)) = ((2 ^ (n + 1) : Nat) : Int) := by simp
        rw [c]; omega
      have lt : ((2 ^ n : Nat) : Int) < 2 ^ (n + 1) := by
        have c : ((2 : Int) ^ (n + 1)) = ((2 ^ (n + 1) : Nat) : Int) := by simp
        rw [c]; omega
      rw [U.or_join (n + 1) (by omega) (by omega) z (by omega) (by omega) lt]; omega
    have m0 : root % 2 ^ n = 0 := by
      have := Nat.mod_mod_of_dvd root (Nat.pow_dvd_pow 2 (Nat.le_succ n))
      rw [← this, hm, Nat.zero_mod]
    have m1 : (root + 2 ^ n) % 2 ^ n = 0 := by rw [Nat.add_mod_right, m0]
    rw [wide_Wide_Sqrt.l0, e, if_pos (by omega), if_pos (by omega), es, eo, hw, wmul_eq (root + 2 ^ n) (root + 2 ^ n) (by omega) (by omega)]
    simp only [Option.bind_some]
    rw [wcmp_eq]
    simp only [Option.bind_some]
    have cs := U.cmp3_cases (((root + 2 ^ n) * (root + 2 ^ n) : Nat) : Int) (A : Int)
    by_cases hc : (root + 2 ^ n) * (root + 2 ^ n) ≤ A
    · rw [if_pos (by omega)]
      refine ih (k + 1) (root + 2 ^ n) (by omega) (by omega) m1 (by omega) hc ?_
      have : root + 2 ^ n + 2 ^ n = root + 2 ^ (n + 1) := by omega
      rw [this]; exact h2
    · rw [if_neg (by omega)]
      exact ih (k + 1) root (by omega) (by omega) m0 (by omega) h1 (by omega)
theorem sqrt_eq (A : Nat) (hA : A < 340282366920938463463374607431768211456) (k : Nat) (hk : 70 < k) :
    ∃ r : Nat, wide_Wide_Sqrt.f k ((A / 18446744073709551616 : Nat) : Int) ((A % 18446744073709551616 : Nat) : Int) = some ((r : Int), decide (r * r = A)) ∧ r * r ≤ A ∧ A < (r + 1) * (r + 1) ∧ r < 18446744073709551616 := by
  unfold wide_Wide_Sqrt.f
  exact sqrt_l0 A 64 k 0 (by omega) (by omega) (by decide) (by decide) (by omega) (by omega)
theorem root_unique {A r s : Nat} (h1 : r * r ≤ A) (h2 : A < (r + 1) * (r + 1)) (h3 : s * s ≤ A) (h4 : A < (s + 1) * (s + 1)) : r = s := by
  have a : r < s + 1 := Nat.mul_self_lt_mul_self_iff.mp (Nat.lt_of_le_of_lt h1 h4)
  have b : s < r + 1 := Nat.mul_self_lt_mul_self_iff.mp (Nat.lt_of_le_of_lt h3 h2)
  omega
theorem head_eq (k : Nat) (hk : 70 < k) : gimballaw02_head.f k = some true := by
  unfold gimballaw02_head.f
  have m := wmul_eq 9223372036854775808 4 (by decide) (by decide)
  obtain ⟨r, e, h1, h2, _⟩ := sqrt_eq (9223372036854775808 * 4) (by decide) k hk
  have hr : r = 6074000999 := root_unique h1 h2 (by decide) (by decide)
  rw [show ((9223372036854775808 : Nat) : Int) = 9223372036854775808 from rfl, show ((4 : Nat) : Int) = 4 from rfl] at m
  rw [m]
  simp only [Option.bind_some]
  rw [e]
  simp only [Option.bind_some]
  rw [hr]
  decide
theorem shl_pow (x : Nat) (s : Nat) (hs : s ≤ 64) : shl .u64 (x : Int) (s : Int) = ((x * 2 ^ s % 18446744073709551616 : Nat) : Int) := by
  unfold shl
  rw [Int.toNat_natCast, Nat.min_eq_left (by show s ≤ 64; exact hs), U.wrap_u64]
  have : (x : Int) * 2 ^ s = ((x * 2 ^ s : Nat) : Int) := by simp
  rw [this]; omega
theorem shr_pow (x : Nat) (s : Nat) (hs : s ≤ 64) : shr .u64 (x : Int) (s : Int) = ((x / 2 ^ s : Nat) : Int) := by
  unfold shr
  rw [Int.toNat_natCast, Nat.min_eq_left (by show s ≤ 64; exact hs)]
  simp
theorem or_nat (i x y : Nat) (hi : i ≤ 64) (hx : x % 2 ^ i = 0) (hx1 : x < 18446744073709551616) (hy : y < 2 ^ i) : bits .or .u64 (x : Int) (y : Int) = ((x + y : Nat) : Int) := by
  have z : (x : Int) % 2 ^ i = 0 := by
    have c : ((2 : Int) ^ i) = ((2 ^ i : Nat) : Int) := by simp
    rw [c]; omega
  have lt : (y : Int) < 2 ^ i := by
    have c : ((2 : Int) ^ i) = ((2 ^ i : Nat) : Int) := by simp
    rw [c]; omega
  rw [U.or_join i hi (by omega) z (by omega) (by omega) lt]; omega
theorem pow_split (s : Nat) (hs : s ≤ 64) : 2 ^ s * 2 ^ (64 - s) = 18446744073709551616 := by
  rw [← Nat.pow_add]
  have : s + (64 - s) = 64 := by omega
  rw [this]
theorem p64 : (2 : Nat) ^ 64 = 18446744073709551616 := by decide
theorem p128 : (2 : Nat) ^ 128 = 18446744073709551616 * 18446744073709551616 := by decide
theorem mod_split (x P Q : Nat) (hPQ : P * Q = 18446744073709551616) : x * Q % 18446744073709551616 = x % P * Q := by rw [← hPQ, Nat.mul_mod_mul_right]
theorem ne_pair (a b c d : Int) : (!(a == c) || !(b == d)) = !(decide (a = c ∧ b = d)) := by
  by_cases h1 : a = c
  · by_cases h2 : b = d
    · simp [h1, h2]
    · simp [h1, h2]
  · simp [h1]
/-- The high word of h B + l times 2^s, and the low one. -/
theorem left_arith (h l P Q : Nat) (hPQ : P * Q = 18446744073709551616) (hP : 0 < P) (hQ : 0 < Q) (hl : l < 18446744073709551616) :
    ((h * 18446744073709551616 + l) * P / 18446744073709551616 % 18446744073709551616 = h * P % 18446744073709551616 + l / Q) ∧
    ((h * 18446744073709551616 + l) * P % 18446744073709551616 = l * P % 18446744073709551616) ∧ h * P % 18446744073709551616 % P = 0 ∧ l / Q < P ∧ h * P % 18446744073709551616 + l / Q < 18446744073709551616 := by
  have e1 : (h * 18446744073709551616 + l) * P = h * P * 18446744073709551616 + l * P := by rw [Nat.add_mul]; congr 1; rw [Nat.mul_assoc, Nat.mul_comm 18446744073709551616, ← Nat.mul_assoc]
  have d1 : l = Q * (l / Q) + l % Q := (Nat.div_add_mod l Q).symm
  have m1 : l % Q < Q := Nat.mod_lt _ hQ
  have e2 : l * P = 18446744073709551616 * (l / Q) + l % Q * P := by
    conv => lhs; rw [d1]
    rw [Nat.add_mul, ← hPQ, Nat.mul_comm Q, Nat.mul_assoc, Nat.mul_comm (l / Q), Nat.mul_comm Q P]
  have b2 : l % Q * P < 18446744073709551616 := by
    rw [← hPQ, Nat.mul_comm P Q]; exact Nat.mul_lt_mul_of_pos_right m1 hP
  have e3 : l / Q < P := by
    rw [Nat.div_lt_iff_lt_mul hQ]; omega
  have d2 : h * P % 18446744073709551616 = h % Q * P := by
    conv => lhs; rw [← hPQ, Nat.mul_comm h P, Nat.mul_mod_mul_left, Nat.mul_comm]
  have m2 : h % Q < Q := Nat.mod_lt _ hQ
  have b3 : h % Q * P + P ≤ 18446744073709551616 := by
    have : (h % Q + 1) * P ≤ Q * P := Nat.mul_le_mul_right P m2
    rw [Nat.add_mul, Nat.one_mul, Nat.mul_comm Q P, hPQ] at this
    exact this
  refine ⟨?_, ?_, ?_, e3, by omega⟩
  · rw [e1, e2]; omega
  · rw [e1]; omega
  · rw [d2, Nat.mul_mod_left]
theorem wzero_eq (v : Nat) (hv : v < 340282366920938463463374607431768211456) : wide_Wide_Zero.f ((v / 18446744073709551616 : Nat) : Int) ((v % 18446744073709551616 : Nat) : Int) = some (decide (v = 0)) := by
  unfold wide_Wide_Zero.f
  rw [u64_or_nat _ _ (by omega) (by omega)]
  congr 1
  rw [Bool.eq_iff_iff]
  simp only [beq_iff_eq, decide_eq_true_eq]
  constructor
  · intro h
    have h1 : v / 18446744073709551616 ||| v % 18446744073709551616 = 0 := by omega
    have := Nat.or_eq_zero_iff.mp h1
    omega
  · rintro rfl; decide
theorem rd_nat (l : List Int) (n : Nat) : rd l (n : Int) = l.getD n 0 := by unfold rd; rw [Int.toNat_natCast]
theorem trim_l0 (l : List Int) (hb : U.isb l) (hn : l.length < 17592186044416) (n : Nat) : ∀ k, n ≤ l.length → n < k → gimbalref02_Trim.l0 k l (n : Int) = some (U.binl (U.val (l.take n))) := by
  induction n with
  | zero =>
    intro k _ hk
    obtain ⟨k, rfl⟩ : ∃ m, k = m + 1 := ⟨k - 1, by omega⟩
    rw [gimbalref02_Trim.l0, if_neg (by omega)]
    simp [U.val, U.binl_zero]
  | succ n ih =>
    intro k h hk
    obtain ⟨k, rfl⟩ : ∃ m, k = m + 1 := ⟨k - 1, by omega⟩
    have hw : wrap64 (((n + 1 : Nat) : Int) - 1) = (n : Int) := by rw [U.wrap64_id (by omega) (by omega)]; omega
    rw [gimbalref02_Trim.l0, if_pos (by omega), hw, if_pos (by omega), if_pos (by omega), rd_nat]
    rcases U.getD_isb hb n with h0 | h1
    · rw [if_pos h0, ih k (by omega) (by omega), U.val_take_succ (by omega), h0]
      simp
    · rw [if_neg (by rw [h1]; decide)]
      have e : (((n + 1 : Nat) : Int)).toNat = n + 1 := Int.toNat_natCast _
      have hlen : (l.take (n + 1)).length = n + 1 := by rw [List.length_take]; omega
      rw [Option.bind_some, if_pos (by omega), if_pos (by omega), e, if_pos (by simp [hlen]; omega), List.nil_append]
      congr 1
      refine (U.binl_val (U.isb_take hb _) (Or.inr ?_)).1.symm
      rw [List.take_succ_eq_append_getElem (by omega), List.getLast?_append]
      rw [List.getD_eq_getElem?_getD, List.getElem?_eq_getElem (by omega), Option.getD_some] at h1
      simp [h1]
theorem trim_eq (l : List Int) (hb : U.isb l) (hn : l.length < 17592186044416) (k : Nat) (hk : l.length < k) : gimbalref02_Trim.f k l = some (U.binl (U.val l)) := by
  unfold gimbalref02_Trim.f
  rw [trim_l0 l hb hn l.length k (Nat.le_refl _) hk, List.take_length]
theorem of_l0 (n : Nat) : ∀ (k : Nat) (acc : List Int), n < 18446744073709551616 → U.blen n < k → acc.length + U.blen n < 17592186044416 → gimbalref02_Of.l0 k (n : Int) acc = some (acc ++ U.binl n) := by
  induction n using Nat.strongRecOn with
  | ind n ih =>
    intro k acc hn hk hl
    obtain ⟨k, rfl⟩ : ∃ m, k = m + 1 := ⟨k - 1, by omega⟩
    by_cases h : n = 0
    · subst h
      rw [gimbalref02_Of.l0, if_neg (by decide), U.binl_zero, List.append_nil]
    · have hb := U.blen_pos h
      have e1 : IntKind.u64.wrap (Int.tdiv (n : Int) 2) = ((n / 2 : Nat) : Int) := by
        rw [U.tdiv_nn (by omega), U.wrap_u64_id (by omega) (by omega)]; omega
      have e2 : wrap64 (Int.tmod (n : Int) 2) = ((n % 2 : Nat) : Int) := by
        rw [U.tmod_nn (by omega), U.wrap64_id (by omega) (by omega)]; omega
      rw [gimbalref02_Of.l0, if_pos (by omega), if_pos (by omega), e1, e2, ih (n / 2) (by omega) k _ (by omega) (by omega) (by simp; omega), U.binl_pos h]
      simp
theorem of_eq (n : Nat) (hn : n < 18446744073709551616) (k : Nat) (hk : 65 < k) : gimbalref02_Of.f k (n : Int) = some (U.binl n) := by
  have := (U.blen_le 64 n).2 hn
  unfold gimbalref02_Of.f
  rw [of_l0 n k [] hn (by omega) (by simp; omega), List.nil_append]
theorem up_l0 (l : List Int) (hb : U.isb l) (n : Nat) (hs : n + l.length < 17592186044416) (d : Nat) : ∀ (k i : Nat), i + d = n → d + n + l.length + 1 < k →
    gimbalref02_Up.l0 k l (n : Int) (List.replicate i 0) (i : Int) = some (U.binl (U.val l * 2 ^ n)) := by
  induction d with
  | zero =>
    intro k i hi hk
    obtain ⟨k, rfl⟩ : ∃ m, k = m + 1 := ⟨k - 1, by omega⟩
    have e : i = n := by omega
    subst e
    rw [gimbalref02_Up.l0, if_neg (by omega), if_pos (by rw [List.length_replicate]; omega), trim_eq _ (U.isb_append (U.isb_replicate _) hb) (by simp; omega) k (by simp; omega), U.val_append, U.val_replicate, List.length_replicate, Option.bind_some, Nat.zero_add, Nat.mul_comm]
  | succ d ih =>
    intro k i hi hk
    obtain ⟨k, rfl⟩ : ∃ m, k = m + 1 := ⟨k - 1, by omega⟩
    have hw : wrap64 ((i : Int) + 1) = ((i + 1 : Nat) : Int) := by rw [U.wrap64_id (by omega) (by omega)]; omega
    have hr : List.replicate i (0 : Int) ++ [0] = List.replicate (i + 1) 0 := by rw [List.replicate_succ']
    rw [gimbalref02_Up.l0, if_pos (by omega), if_pos (by rw [List.length_replicate]; omega), hr, hw]
    exact ih k (i + 1) (by omega) (by omega)
theorem up_eq (l : List Int) (hb : U.isb l) (n : Nat) (hs : n + l.length < 17592186044416) (k : Nat) (hk : 2 * n + l.length + 1 < k) : gimbalref02_Up.f k l (n : Int) = some (U.binl (U.val l * 2 ^ n)) := by
  unfold gimbalref02_Up.f
  exact up_l0 l hb n hs n k 0 (by omega) (by omega)
theorem up_binl (a n : Nat) (hs : n + U.blen a < 17592186044416) (k : Nat) (hk : 2 * n + U.blen a + 1 < k) : gimbalref02_Up.f k (U.binl a) (n : Int) = some (U.binl (a * 2 ^ n)) := by
  rw [up_eq _ (U.isb_binl a) n hs k hk, U.val_binl]
theorem cmp_l0 (l m : List Int) (hl : U.isb l) (hm : U.isb m) (n : Nat) : ∀ (k : Nat), n ≤ l.length → n ≤ m.length → n < k → n < 9223372036854775808 → gimbalref02_Cmp.l0 k l m ((n : Int) - 1) = some (U.cmp3 (U.val (l.take n)) (U.val (m.take n))) := by
  induction n with
  | zero =>
    intro k _ _ hk _
    obtain ⟨k, rfl⟩ : ∃ m, k = m + 1 := ⟨k - 1, by omega⟩
    rw [gimbalref02_Cmp.l0, if_neg (by omega)]
    simp [U.val, U.cmp3]
  | succ n ih =>
    intro k h1 h2 hk hb
    obtain ⟨k, rfl⟩ : ∃ m, k = m + 1 := ⟨k - 1, by omega⟩
    have e : ((n + 1 : Nat) : Int) - 1 = (n : Int) := by omega
    have hw : wrap64 ((n : Int) - 1) = (n : Int) - 1 := U.wrap64_id (by omega) (by omega)
    have b1 := U.val_lt (U.isb_take hl n)
    have b2 := U.val_lt (U.isb_take hm n)
    rw [List.length_take, Nat.min_eq_left (by omega)] at b1 b2
    have c1 := U.val_take_succ (l := l) (n := n) (by omega)
    have c2 := U.val_take_succ (l := m) (n := n) (by omega)
    rw [gimbalref02_Cmp.l0, e, if_pos (by omega), if_pos (by omega), if_pos (by omega), if_pos (by omega), rd_nat, rd_nat, hw]
    have g1 := U.getD_isb hl n
    have g2 := U.getD_isb hm n
    by_cases hq : l.getD n 0 = m.getD n 0
    · rw [if_pos hq, ih k (by omega) (by omega) (by omega) (by omega), c1, c2, hq]
      unfold U.cmp3
      congr 1
      repeat (any_goals split)
      all_goals omega
    · rw [if_neg hq]
      by_cases hlt : l.getD n 0 < m.getD n 0
      · have x1 : l.getD n 0 = 0 := by omega
        have x2 : m.getD n 0 = 1 := by omega
        rw [if_pos hlt, c1, c2, x1, x2]
        have : U.cmp3 ((U.val (l.take n) + 2 ^ n * (0 : Int).toNat : Nat) : Int) ((U.val (m.take n) + 2 ^ n * (1 : Int).toNat : Nat) : Int) = -1 := by
          unfold U.cmp3
          have t0 : (0 : Int).toNat = 0 := rfl
          have t1 : (1 : Int).toNat = 1 := rfl
          rw [t0, t1, if_pos (by omega)]
        rw [this]
      · have x1 : l.getD n 0 = 1 := by omega
        have x2 : m.getD n 0 = 0 := by omega
        rw [if_neg hlt, c1, c2, x1, x2]
        have : U.cmp3 ((U.val (l.take n) + 2 ^ n * (1 : Int).toNat : Nat) : Int) ((U.val (m.take n) + 2 ^ n * (0 : Int).toNat : Nat) : Int) = 1 := by
          unfold U.cmp3
          have t0 : (0 : Int).toNat = 0 := rfl
          have t1 : (1 : Int).toNat = 1 := rfl
          rw [t0, t1, if_neg (by omega), if_pos (by omega)]
        rw [this]
theorem refcmp_eq (l m : List Int) (hl : U.isb l) (hm : U.isb m) (ql : l.length < 17592186044416) (qm : m.length < 17592186044416) (k : Nat) (hk : l.length < k) (hk2 : m.length < k) : gimbalref02_Cmp.f k l m = some (U.cmp3 (U.val l) (U.val m)) := by
  unfold gimbalref02_Cmp.f
  rw [trim_eq l hl ql k hk, trim_eq m hm qm k hk2]
  simp only [Option.bind_some]
  have b1 := (U.blen_le l.length (U.val l)).2 (U.val_lt hl)
  have b2 := (U.blen_le m.length (U.val m)).2 (U.val_lt hm)
  have d1 : (U.binl (U.val l)).length = U.blen (U.val l) := rfl
  have d2 : (U.binl (U.val m)).length = U.blen (U.val m) := rfl
  have m1 := fun h : U.val m ≤ U.val l => U.blen_mono h
  have m2 := fun h : U.val l ≤ U.val m => U.blen_mono h
  rw [d1, d2]
  by_cases he : (U.blen (U.val l) : Int) = (U.blen (U.val m) : Int)
  · have he' : U.blen (U.val l) = U.blen (U.val m) := by omega
    have c := cmp_l0 (U.binl (U.val l)) (U.binl (U.val m)) (U.isb_binl _) (U.isb_binl _) (U.blen (U.val l)) k (Nat.le_refl _) (by rw [d2, he']; exact Nat.le_refl _) (by omega) (by omega)
    rw [if_pos he, U.wrap64_id (by omega) (by omega), c]
    have t1 : (U.binl (U.val l)).take (U.blen (U.val l)) = U.binl (U.val l) := by rw [← d1, List.take_length]
    have t2 : (U.binl (U.val m)).take (U.blen (U.val l)) = U.binl (U.val m) := by rw [he', ← d2, List.take_length]
    rw [t1, t2, U.val_binl, U.val_binl]
  · rw [if_neg he]
    unfold U.cmp3
    by_cases hlt : (U.blen (U.val l) : Int) < (U.blen (U.val m) : Int)
    · rw [if_pos hlt, if_pos (by omega)]
    · rw [if_neg hlt, if_neg (by omega), if_pos (by omega)]
theorem refcmp_binl (a b : Nat) (ql : U.blen a < 17592186044416) (qm : U.blen b < 17592186044416) (k : Nat) (hk : U.blen a < k) (hk2 : U.blen b < k) : gimbalref02_Cmp.f k (U.binl a) (U.binl b) = some (U.cmp3 a b) := by
  rw [refcmp_eq _ _ (U.isb_binl a) (U.isb_binl b) ql qm k hk hk2, U.val_binl, U.val_binl]
theorem val_drop (l : List Int) (i : Nat) : U.val (l.drop i) = (l.getD i 0).toNat + 2 * U.val (l.drop (i + 1)) := by
  by_cases h : i < l.length
  · rw [List.drop_eq_getElem_cons h, List.getD_eq_getElem?_getD, List.getElem?_eq_getElem h, Option.getD_some]; rfl
  · rw [List.drop_eq_nil_of_le (by omega), List.drop_eq_nil_of_le (by omega), List.getD_eq_getElem?_getD, List.getElem?_eq_none (by omega)]; rfl
theorem val_snoc (out : List Int) (x : Int) : U.val (out ++ [x]) = U.val out + 2 ^ out.length * x.toNat := by
  rw [U.val_append]; show _ + _ * (x.toNat + 2 * 0) = _; rw [Nat.mul_zero, Nat.add_zero]
theorem add_l0 (l m : List Int) (hl : U.isb l) (hm : U.isb m) (e : Nat) : ∀ (k i : Nat) (out : List Int) (c : Nat), c ≤ 1 → l.length ≤ i + e → m.length ≤ i + e → U.isb out → out.length = i → i + e < 17592186044000 →
    2 * e + 6 + (i + e + 2) < k + (1 - c) * 0 → gimbalref02_Add.l0 k l m out (c : Int) (i : Int) = some (U.binl (U.val out + 2 ^ i * (c + U.val (l.drop i) + U.val (m.drop i)))) := by
  have stop : ∀ (k i : Nat) (out : List Int), l.length ≤ i → m.length ≤ i → U.isb out → out.length = i → i < 17592186044400 → i + 3 < k →
      gimbalref02_Add.l0 k l m out 0 (i : Int) = some (U.binl (U.val out)) := by
    intro k i out h1 h2 hb ho hs hk
    obtain ⟨k, rfl⟩ : ∃ m, k = m + 2 := ⟨k - 2, by omega⟩
    rw [gimbalref02_Add.l0, if_neg (by omega), if_neg (by omega)]
    rw [gimbalref02_Add.j1, if_neg (by decide), trim_eq out hb (by omega) k (by omega), Option.bind_some]
  have step : ∀ (k i : Nat) (out : List Int) (c : Nat), c ≤ 1 → out.length = i → i < 17592186044400 → (i < l.length ∨ i < m.length ∨ c = 1) →
      gimbalref02_Add.l0 (k + 2) l m out (c : Int) (i : Int) = gimbalref02_Add.l0 k l m (out ++ [(((c + (l.getD i 0).toNat + (m.getD i 0).toNat) % 2 : Nat) : Int)]) (((c + (l.getD i 0).toNat + (m.getD i 0).toNat) / 2 : Nat) : Int) ((i + 1 : Nat) : Int) := by
    intro k i out c hc ho hs hor
    have g1 := U.getD_isb hl i
    have g2 := U.getD_isb hm i
    have j : gimbalref02_Add.j1 (k + 1) l m out (c : Int) (i : Int) true = gimbalref02_Add.l0 k l m (out ++ [(((c + (l.getD i 0).toNat + (m.getD i 0).toNat) % 2 : Nat) : Int)]) (((c + (l.getD i 0).toNat + (m.getD i 0).toNat) / 2 : Nat) : Int) ((i + 1 : Nat) : Int) := by
      have hi : wrap64 ((i : Int) + 1) = ((i + 1 : Nat) : Int) := by rw [U.wrap64_id (by omega) (by omega)]; omega
      rw [gimbalref02_Add.j1, if_pos rfl, rd_nat, rd_nat, hi]
      have z1 : ¬ (i : Int) < (l.length : Int) → l.getD i 0 = 0 := fun h => by rw [List.getD_eq_getElem?_getD, List.getElem?_eq_none (by omega)]; rfl
      have z2 : ¬ (i : Int) < (m.length : Int) → m.getD i 0 = 0 := fun h => by rw [List.getD_eq_getElem?_getD, List.getElem?_eq_none (by omega)]; rfl
      have fin : ∀ n : Int, n = (c : Int) + l.getD i 0 + m.getD i 0 → (Int.tmod n 2 = (((c + (l.getD i 0).toNat + (m.getD i 0).toNat) % 2 : Nat) : Int)) ∧ wrap64 (Int.tdiv n 2) = (((c + (l.getD i 0).toNat + (m.getD i 0).toNat) / 2 : Nat) : Int) := by
        intro n hn
        rw [U.tmod_nn (by omega), U.tdiv_nn (by omega), U.wrap64_id (by omega) (by omega)]
        omega
      by_cases c1 : (i : Int) < (l.length : Int)
      · rw [if_pos c1, if_pos (by omega)]
        have w1 : wrap64 ((c : Int) + l.getD i 0) = (c : Int) + l.getD i 0 := U.wrap64_id (by omega) (by omega)
        by_cases c2 : (i : Int) < (m.length : Int)
        · have w2 : wrap64 (wrap64 ((c : Int) + l.getD i 0) + m.getD i 0) = (c : Int) + l.getD i 0 + m.getD i 0 := by rw [w1]; exact U.wrap64_id (by omega) (by omega)
          obtain ⟨f1, f2⟩ := fin _ rfl
          rw [if_pos c2, if_pos (by omega), w2, f1, f2]
        · have y := z2 c2
          obtain ⟨f1, f2⟩ := fin ((c : Int) + l.getD i 0) (by omega)
          rw [if_neg c2, if_pos (by omega), w1, f1, f2]
      · have x := z1 c1
        rw [if_neg c1]
        by_cases c2 : (i : Int) < (m.length : Int)
        · have w1 : wrap64 ((c : Int) + m.getD i 0) = (c : Int) + m.getD i 0 := U.wrap64_id (by omega) (by omega)
          obtain ⟨f1, f2⟩ := fin ((c : Int) + m.getD i 0) (by omega)
          rw [if_pos c2, if_pos (by omega), if_pos (by omega), w1, f1, f2]
        · have y := z2 c2
          obtain ⟨f1, f2⟩ := fin (c : Int) (by omega)
          rw [if_neg c2, if_pos (by omega), f1, f2]
    rw [gimbalref02_Add.l0]
    by_cases c1 : (i : Int) < (l.length : Int)
    · rw [if_pos c1, j]
    · rw [if_neg c1]
      by_cases c2 : (i : Int) < (m.length : Int)
      · rw [if_pos c2, j]
      · have : decide ((c : Int) > 0) = true := by simp; omega
        rw [if_neg c2, this, j]
  have value : ∀ (i : Nat) (out : List Int) (c : Nat), c ≤ 1 → out.length = i →
      U.val (out ++ [(((c + (l.getD i 0).toNat + (m.getD i 0).toNat) % 2 : Nat) : Int)]) + 2 ^ (i + 1) * ((c + (l.getD i 0).toNat + (m.getD i 0).toNat) / 2 + U.val (l.drop (i + 1)) + U.val (m.drop (i + 1)))
        = U.val out + 2 ^ i * (c + U.val (l.drop i) + U.val (m.drop i)) := by
    intro i out c hc ho
    rw [val_snoc, ho, val_drop l i, val_drop m i, Int.toNat_natCast, Nat.pow_succ, Nat.mul_assoc, Nat.add_assoc, ← Nat.mul_add]
    congr 2
    omega
  have bit : ∀ (i : Nat) (out : List Int) (n : Nat), U.isb out → U.isb (out ++ [((n % 2 : Nat) : Int)]) := fun i out n hb => U.isb_append hb (U.isb_cons (by omega) U.isb_nil)
  induction e with
  | zero =>
    intro k i out c hc h1 h2 hb ho hs hk
    have d1 : U.val (l.drop i) = 0 := by rw [List.drop_eq_nil_of_le (by omega)]; rfl
    have d2 : U.val (m.drop i) = 0 := by rw [List.drop_eq_nil_of_le (by omega)]; rfl
    by_cases c0 : c = 0
    · subst c0
      have := stop k i out (by omega) (by omega) hb ho (by omega) (by omega)
      rw [show ((0 : Nat) : Int) = 0 from rfl, this, d1, d2]
      simp
    · have c1 : c = 1 := by omega
      obtain ⟨k, rfl⟩ : ∃ m, k = m + 2 := ⟨k - 2, by omega⟩
      rw [step k i out c hc ho (by omega) (Or.inr (Or.inr c1))]
      have v := value i out c hc ho
      have d3 : U.val (l.drop (i + 1)) = 0 := by rw [List.drop_eq_nil_of_le (by omega)]; rfl
      have d4 : U.val (m.drop (i + 1)) = 0 := by rw [List.drop_eq_nil_of_le (by omega)]; rfl
      have z1 : l.getD i 0 = 0 := by rw [List.getD_eq_getElem?_getD, List.getElem?_eq_none (by omega)]; rfl
      have z2 : m.getD i 0 = 0 := by rw [List.getD_eq_getElem?_getD, List.getElem?_eq_none (by omega)]; rfl
      have q : (c + (l.getD i 0).toNat + (m.getD i 0).toNat) / 2 = 0 := by rw [z1, z2, c1]; decide
      rw [q, d3, d4] at v
      rw [q, show ((0 : Nat) : Int) = 0 from rfl, stop k (i + 1) _ (by omega) (by omega) (bit i out _ hb) (by simp [ho]) (by omega) (by omega), ← v]
      simp
  | succ e ih =>
    intro k i out c hc h1 h2 hb ho hs hk
    by_cases any : i < l.length ∨ i < m.length ∨ c = 1
    · obtain ⟨k, rfl⟩ : ∃ m, k = m + 2 := ⟨k - 2, by omega⟩
      have g1 := U.getD_isb hl i
      have g2 := U.getD_isb hm i
      rw [step k i out c hc ho (by omega) any]
      rw [ih k (i + 1) _ _ (by omega) (by omega) (by omega) (bit i out _ hb) (by simp [ho]) (by omega) (by omega), value i out c hc ho]
    · have c0 : c = 0 := by omega
      subst c0
      have d1 : U.val (l.drop i) = 0 := by rw [List.drop_eq_nil_of_le (by omega)]; rfl
      have d2 : U.val (m.drop i) = 0 := by rw [List.drop_eq_nil_of_le (by omega)]; rfl
      have := stop k i out (by omega) (by omega) hb ho (by omega) (by omega)
      rw [show ((0 : Nat) : Int) = 0 from rfl, this, d1, d2]
      simp
theorem add_eq (l m : List Int) (hl : U.isb l) (hm : U.isb m) (n : Nat) (h1 : l.length ≤ n) (h2 : m.length ≤ n) (hn : n < 17592186044000) (k : Nat) (hk : 3 * n + 8 < k) : gimbalref02_Add.f k l m = some (U.binl (U.val l + U.val m)) := by
  unfold gimbalref02_Add.f
  have := add_l0 l m hl hm n k 0 [] 0 (by omega) (by omega) (by omega) U.isb_nil rfl (by omega) (by omega)
  rw [show ((0 : Nat) : Int) = 0 from rfl] at this
  rw [this]
  simp [U.val]
theorem add_binl (a b n : Nat) (h1 : U.blen a ≤ n) (h2 : U.blen b ≤ n) (hn : n < 17592186044000) (k : Nat) (hk : 3 * n + 8 < k) : gimbalref02_Add.f k (U.binl a) (U.binl b) = some (U.binl (a + b)) := by
  rw [add_eq _ _ (U.isb_binl a) (U.isb_binl b) n h1 h2 hn k hk, U.val_binl, U.val_binl]
theorem num_l0 (l : List Int) (hl : U.isb l) (n : Nat) : ∀ (k x : Nat), n ≤ l.length → n < k → n < 9223372036854775808 → x < 18446744073709551616 → gimbalref02_Num.l0 k l (x : Int) ((n : Int) - 1) = some (((x * 2 ^ n + U.val (l.take n)) % 18446744073709551616 : Nat) : Int) := by
  induction n with
  | zero =>
    intro k x _ hk _ hx
    obtain ⟨k, rfl⟩ : ∃ m, k = m + 1 := ⟨k - 1, by omega⟩
    rw [gimbalref02_Num.l0, if_neg (by omega)]
    simp [U.val]; omega
  | succ n ih =>
    intro k x h hk hb hx
    obtain ⟨k, rfl⟩ : ∃ m, k = m + 1 := ⟨k - 1, by omega⟩
    have g := U.getD_isb hl n
    have e : ((n + 1 : Nat) : Int) - 1 = (n : Int) := by omega
    have hw : wrap64 ((n : Int) - 1) = (n : Int) - 1 := U.wrap64_id (by omega) (by omega)
    have ex : IntKind.u64.wrap (IntKind.u64.wrap (2 * (x : Int)) + IntKind.u64.wrap (l.getD n 0)) = (((2 * x + (l.getD n 0).toNat) % 18446744073709551616 : Nat) : Int) := by
      rw [U.wrap_u64, U.wrap_u64, U.wrap_u64]; omega
    rw [gimbalref02_Num.l0, e, if_pos (by omega), if_pos (by omega), if_pos (by omega), rd_nat, hw, ex, ih k _ (by omega) (by omega) (by omega) (Nat.mod_lt _ (by decide)), U.val_take_succ (by omega)]
    congr 2
    rw [Nat.add_mod, Nat.mod_mul_mod, ← Nat.add_mod, Nat.add_mul, Nat.pow_succ, Nat.mul_assoc, Nat.mul_comm 2 (x * 2 ^ n), Nat.mul_assoc, Nat.mul_comm (l.getD n 0).toNat]
    congr 1
    rw [Nat.add_assoc, Nat.add_comm (2 ^ n * _)]
theorem num_eq (l : List Int) (hl : U.isb l) (k : Nat) (hk : 65 < k) (hs : l.length < 17592186044416) : gimbalref02_Num.f k l = some ((U.val l % 18446744073709551616 : Nat) : Int) := by
  unfold gimbalref02_Num.f
  have e : (mn (l.length : Int) 64) - 1 = ((min l.length 64 : Nat) : Int) - 1 := by unfold mn; split <;> omega
  rw [e]
  have := num_l0 l hl (min l.length 64) k 0 (Nat.min_le_left _ _) (by omega) (by omega) (by decide)
  rw [show ((0 : Nat) : Int) = 0 from rfl] at this
  rw [this, Nat.zero_mul, Nat.zero_add]
  congr 2
  have t : l.take (min l.length 64) = l.take 64 := by
    by_cases h : l.length ≤ 64
    · rw [Nat.min_eq_left h, List.take_length, List.take_of_length_le h]
    · rw [Nat.min_eq_right (by omega)]
  rw [t]
  have hv := U.val_append (l.take 64) (l.drop 64)
  rw [List.take_append_drop] at hv
  by_cases h : l.length ≤ 64
  · rw [List.take_of_length_le h]
  · have : (l.take 64).length = 64 := by rw [List.length_take]; omega
    rw [this] at hv
    have : 2 ^ 64 = 18446744073709551616 := by decide
    omega
theorem val_take_drop (l : List Int) (n : Nat) (hn : n ≤ l.length) : U.val l = U.val (l.take n) + 2 ^ n * U.val (l.drop n) := by
  have hv := U.val_append (l.take n) (l.drop n)
  rw [List.take_append_drop] at hv
  have : (l.take n).length = n := by rw [List.length_take]; omega
  rw [this] at hv
  exact hv
theorem val_div (l : List Int) (hl : U.isb l) (n : Nat) : U.val l / 2 ^ n = U.val (l.drop n) ∧ U.val l % 2 ^ n = U.val (l.take n) := by
  by_cases hn : n ≤ l.length
  · have h := val_take_drop l n hn
    have hlt := U.val_lt (U.isb_take hl n)
    have : (l.take n).length = n := by rw [List.length_take]; omega
    rw [this] at hlt
    rw [h]
    constructor
    · rw [Nat.add_mul_div_left _ _ (Nat.two_pow_pos n), Nat.div_eq_of_lt hlt, Nat.zero_add]
    · rw [Nat.add_mul_mod_self_left, Nat.mod_eq_of_lt hlt]
  · have hlt := U.val_lt hl
    have hp : 2 ^ l.length ≤ 2 ^ n := Nat.pow_le_pow_right (by decide) (by omega)
    rw [List.take_of_length_le (by omega), List.drop_eq_nil_of_le (by omega), Nat.div_eq_of_lt (by omega), Nat.mod_eq_of_lt (by omega)]
    exact ⟨rfl, rfl⟩
theorem down_l0 (l : List Int) (hl : U.isb l) (n : Nat) (hn : n < 17592186044416) (hs : l.length < 17592186044416) (d : Nat) : ∀ (k i : Nat) (lost : Bool), i ≤ n → i ≤ l.length → (i + d = n ∨ i + d = l.length) → i + d ≤ n → i + d ≤ l.length → d + l.length + 1 < k →
    lost = decide (U.val (l.take i) ≠ 0) → gimbalref02_Down.l0 k l (n : Int) lost (i : Int) = some (U.binl (U.val l / 2 ^ n), decide (U.val l % 2 ^ n ≠ 0)) := by
  have stop : ∀ (k i : Nat) (lost : Bool), (i = n ∨ i = l.length) → i ≤ n → i ≤ l.length → l.length + 1 < k → lost = decide (U.val (l.take i) ≠ 0) →
      gimbalref02_Down.l0 k l (n : Int) lost (i : Int) = some (U.binl (U.val l / 2 ^ n), decide (U.val l % 2 ^ n ≠ 0)) := by
    intro k i lost hi h1 h2 hk hlost
    obtain ⟨k, rfl⟩ : ∃ m, k = m + 1 := ⟨k - 1, by omega⟩
    obtain ⟨v1, v2⟩ := val_div l hl n
    rw [v1, v2]
    have hm : mx (n : Int) 0 = (n : Int) := by unfold mx; rw [if_neg (by omega)]
    have tk : U.val (l.take i) = U.val (l.take n) := by
      rcases hi with rfl | rfl
      · rfl
      · rw [List.take_length, List.take_of_length_le h1]
    have fin : (if (n : Int) ≥ (l.length : Int) then some (([] : List Int), lost) else if 0 ≤ mx (n : Int) 0 then if mx (n : Int) 0 ≤ (l.length : Int) then (gimbalref02_Trim.f k (l.drop (mx (n : Int) 0).toNat)).bind fun t => some (t, lost) else none else none) = some (U.binl (U.val (l.drop n)), decide (U.val (l.take n) ≠ 0)) := by
      rw [hlost, tk, hm, Int.toNat_natCast]
      by_cases hge : (n : Int) ≥ (l.length : Int)
      · rw [if_pos hge, List.drop_eq_nil_of_le (by omega)]
        show some (([] : List Int), _) = some (U.binl 0, _)
        rw [U.binl_zero]
      · rw [if_neg hge, if_pos (by omega), if_pos (by omega), trim_eq _ (U.isb_drop hl n) (by rw [List.length_drop]; omega) k (by rw [List.length_drop]; omega), Option.bind_some]
    rw [gimbalref02_Down.l0]
    by_cases c1 : (i : Int) < (n : Int)
    · rw [if_pos c1, if_neg (by omega)]
      exact fin
    · rw [if_neg c1]
      exact fin
  induction d with
  | zero =>
    intro k i lost h1 h2 h3 h4 h5 hk hlost
    exact stop k i lost (by omega) h1 h2 (by omega) hlost
  | succ d ih =>
    intro k i lost h1 h2 h3 h4 h5 hk hlost
    obtain ⟨k, rfl⟩ : ∃ m, k = m + 1 := ⟨k - 1, by omega⟩
    have hw : wrap64 ((i : Int) + 1) = ((i + 1 : Nat) : Int) := by rw [U.wrap64_id (by omega) (by omega)]; omega
    have g := U.getD_isb hl i
    have vt := U.val_take_succ (l := l) (n := i) (by omega)
    have hp := Nat.two_pow_pos i
    rw [gimbalref02_Down.l0, if_pos (by omega), if_pos (by omega), hw, rd_nat]
    cases lost with
    | true =>
      rw [if_pos rfl]
      refine ih k (i + 1) true (by omega) (by omega) (by omega) (by omega) (by omega) (by omega) ?_
      have : U.val (l.take i) ≠ 0 := of_decide_eq_true hlost.symm
      symm; apply decide_eq_true; omega
    | false =>
      rw [if_neg (by decide), if_pos (by omega)]
      refine ih k (i + 1) _ (by omega) (by omega) (by omega) (by omega) (by omega) (by omega) ?_
      have h0 : ¬ U.val (l.take i) ≠ 0 := of_decide_eq_false hlost.symm
      rcases g with g | g
      · rw [g] at vt ⊢
        have : U.val (l.take (i + 1)) = 0 := by rw [vt]; simp; omega
        simp [this]
      · rw [g] at vt ⊢
        have : U.val (l.take (i + 1)) ≠ 0 := by rw [vt]; simp
        simp [this]
theorem down_eq (l : List Int) (hl : U.isb l) (n : Nat) (hn : n < 17592186044416) (hs : l.length < 17592186044416) (k : Nat) (hk : 2 * l.length + 1 < k) : gimbalref02_Down.f k l (n : Int) = some (U.binl (U.val l / 2 ^ n), decide (U.val l % 2 ^ n ≠ 0)) := by
  unfold gimbalref02_Down.f
  exact down_l0 l hl n hn hs (min n l.length) k 0 false (by omega) (by omega) (by omega) (by omega) (by omega) (by omega) (by simp [U.val])
theorem arith6 {a b c d e f g h : Nat} (inv : a + e = b + h) (e2 : c + d = f + g + e) : a + c + d = b + f + (h + g) := by omega
theorem val_take_any (m : List Int) (i : Nat) : U.val (m.take (i + 1)) = U.val (m.take i) + 2 ^ i * (m.getD i 0).toNat := by
  by_cases h : i < m.length
  · exact U.val_take_succ h
  · have hge : m.length ≤ i := Nat.le_of_not_lt h
    have t1 : m.take (i + 1) = m := List.take_of_length_le (Nat.le_succ_of_le hge)
    have t2 : m.take i = m := List.take_of_length_le hge
    have t3 : m.getD i 0 = 0 := by rw [List.getD_eq_getElem?_getD, List.getElem?_eq_none hge]; rfl
    rw [t1, t2, t3]
    rfl
def SubInv (l m out : List Int) (i c : Nat) : Prop := U.val (l.take i) + 2 ^ i * c = U.val (m.take i) + U.val out
theorem sub_inv (l m out : List Int) (hl : U.isb l) (hm : U.isb m) (i c c' : Nat) (x : Int) (ho : out.length = i) (inv : SubInv l m out i c)
    (hx : x = 0 ∨ x = 1) (he : l.getD i 0 - (c : Int) - m.getD i 0 + 2 * (c' : Int) = x) : SubInv l m (out ++ [x]) (i + 1) c' := by
  have e : (l.getD i 0).toNat + 2 * c' = (m.getD i 0).toNat + x.toNat + c := by
    have g1 := U.getD_isb hl i
    have g2 := U.getD_isb hm i
    omega
  unfold SubInv at inv ⊢
  rw [val_take_any l i, val_take_any m i, val_snoc, ho, Nat.pow_succ, Nat.mul_assoc]
  have e2 : 2 ^ i * (l.getD i 0).toNat + 2 ^ i * (2 * c') = 2 ^ i * (m.getD i 0).toNat + 2 ^ i * x.toNat + 2 ^ i * c := by rw [← Nat.mul_add, e, Nat.mul_add, Nat.mul_add]
  exact arith6 inv e2
theorem sub_l0 (l m : List Int) (hl : U.isb l) (hm : U.isb m) (hs : l.length < 17592186044000) (d : Nat) : ∀ (k i : Nat) (out : List Int) (c : Nat), i + d = l.length → c ≤ 1 → U.isb out → out.length = i →
    SubInv l m out i c → d + l.length + 2 < k → m.length ≤ l.length → U.val m ≤ U.val l →
    gimbalref02_Sub.l0 k l m out (c : Int) (i : Int) = some (U.binl (U.val l - U.val m)) := by
  induction d with
  | zero =>
    intro k i out c hi hc hb ho inv hk hml hle
    obtain ⟨k, rfl⟩ : ∃ m, k = m + 1 := ⟨k - 1, by omega⟩
    have ei : i = l.length := by omega
    unfold SubInv at inv
    rw [List.take_of_length_le (by omega), List.take_of_length_le (by omega)] at inv
    have vl := U.val_lt hb
    rw [ho] at vl
    have c0 : c = 0 := by
      by_cases h : c = 0
      · exact h
      · have : c = 1 := by omega
        rw [this, Nat.mul_one] at inv; omega
    rw [c0, Nat.mul_zero, Nat.add_zero] at inv
    have fin : U.val out = U.val l - U.val m := by rw [inv, Nat.add_sub_cancel_left]
    rw [gimbalref02_Sub.l0, if_neg (by omega), trim_eq out hb (by omega) k (by omega), U.bs, fin]
  | succ d ih =>
    intro k i out c hi hc hb ho inv hk hml hle
    obtain ⟨k, rfl⟩ : ∃ m, k = m + 1 := ⟨k - 1, by omega⟩
    have g1 := U.getD_isb hl i
    have g2 := U.getD_isb hm i
    have hw : wrap64 ((i : Int) + 1) = ((i + 1 : Nat) : Int) := by rw [U.wrap64_id (by omega) (by omega)]; omega
    have z2 : ¬ (i : Int) < (m.length : Int) → m.getD i 0 = 0 := fun h => by rw [List.getD_eq_getElem?_getD, List.getElem?_eq_none (by omega)]; rfl
    have w1 : wrap64 (l.getD i 0 - (c : Int)) = l.getD i 0 - c := U.wrap64_id (by omega) (by omega)
    have w2 : wrap64 (wrap64 (l.getD i 0 - (c : Int)) - m.getD i 0) = l.getD i 0 - c - m.getD i 0 := by rw [w1]; exact U.wrap64_id (by omega) (by omega)
    have next : ∀ (x : Int) (c' : Nat), (x = 0 ∨ x = 1) → c' ≤ 1 → l.getD i 0 - (c : Int) - m.getD i 0 + 2 * (c' : Int) = x →
        gimbalref02_Sub.l0 k l m (out ++ [x]) (c' : Int) ((i + 1 : Nat) : Int) = some (U.binl (U.val l - U.val m)) := by
      intro x c' hx hc' he
      refine ih k (i + 1) (out ++ [x]) c' (by omega) hc' (U.isb_append hb (U.isb_cons hx U.isb_nil)) (by simp [ho]) ?_ (by omega) hml hle
      exact sub_inv l m out hl hm i c c' x ho inv hx he
    clear inv
    rw [gimbalref02_Sub.l0, if_pos (by omega), if_pos (by omega), hw, rd_nat, rd_nat]
    by_cases hlt : (i : Int) < (m.length : Int)
    · rw [if_pos hlt, w2]
      by_cases neg : l.getD i 0 - (c : Int) - m.getD i 0 < 0
      · rw [if_pos neg, if_pos (by omega), U.wrap64_id (by omega) (by omega)]
        exact next _ 1 (by omega) (by omega) (by omega)
      · rw [if_neg neg, if_pos (by omega)]
        exact next _ 0 (by omega) (by omega) (by omega)
    · have z := z2 hlt
      rw [if_neg hlt, w1]
      by_cases neg : l.getD i 0 - (c : Int) < 0
      · rw [if_pos neg, if_pos (by omega), U.wrap64_id (by omega) (by omega)]
        exact next _ 1 (by omega) (by omega) (by omega)
      · rw [if_neg neg, if_pos (by omega)]
        exact next _ 0 (by omega) (by omega) (by omega)
theorem sub_binl (a b : Nat) (h : b ≤ a) (hs : U.blen a < 17592186044000) (k : Nat) (hk : 2 * U.blen a + 2 < k) : gimbalref02_Sub.f k (U.binl a) (U.binl b) = some (U.binl (a - b)) := by
  unfold gimbalref02_Sub.f
  have := sub_l0 (U.binl a) (U.binl b) (U.isb_binl a) (U.isb_binl b) hs (U.binl a).length k 0 [] 0 (by omega) (by omega) U.isb_nil rfl (by simp [SubInv, U.val]) (by show U.blen a + U.blen a + 2 < k; omega) (U.blen_mono h) (by rw [U.val_binl, U.val_binl]; exact h)
  rw [show ((0 : Nat) : Int) = 0 from rfl] at this
  rw [this, U.val_binl, U.val_binl]
theorem back_eq (v : Nat) (k : Nat) (hl : U.blen v < 1000000) (hk : 2000100 < k) : gimballaw02_back.f k (U.binl v) = some (((v / 18446744073709551616 % 18446744073709551616 : Nat) : Int), ((v % 18446744073709551616 : Nat) : Int)) := by
  unfold gimballaw02_back.f
  have d := down_eq (U.binl v) (U.isb_binl v) 64 (by decide) (by show U.blen v < _; omega) k (by show 2 * U.blen v + 1 < k; omega)
  rw [U.val_binl] at d
  have p : (2 : Nat) ^ 64 = 18446744073709551616 := by decide
  have le := U.blen_mono (Nat.div_le_self v (2 ^ 64))
  rw [show ((64 : Nat) : Int) = 64 from rfl] at d
  rw [d]
  simp only [Option.bind_some]
  rw [num_eq _ (U.isb_binl _) k (by omega) (by show U.blen _ < _; omega), num_eq _ (U.isb_binl _) k (by omega) (by show U.blen _ < _; omega)]
  simp only [Option.bind_some]
  rw [U.val_binl, U.val_binl, p]
theorem list_eq (v : Nat) (hv : v < 340282366920938463463374607431768211456) (k : Nat) (hk : 1000 < k) : gimballaw02_list.f k ((v / 18446744073709551616 : Nat) : Int) ((v % 18446744073709551616 : Nat) : Int) = some (U.binl v) := by
  unfold gimballaw02_list.f
  have l1 := (U.blen_le 64 (v % 18446744073709551616)).2 (by omega)
  have l2 := (U.blen_le 64 (v / 18446744073709551616)).2 (by omega)
  rw [of_eq _ (by omega) k (by omega), of_eq _ (by omega) k (by omega)]
  simp only [U.bs]
  have u := up_binl (v / 18446744073709551616) 64 (by omega) k (by omega)
  rw [show ((64 : Nat) : Int) = 64 from rfl] at u
  have e : 2 ^ 64 = 18446744073709551616 := by decide
  rw [u, U.bs, e]
  have l3 := (U.blen_le 128 (v / 18446744073709551616 * 18446744073709551616)).2 (by omega)
  rw [add_binl _ _ 128 (by omega) l3 (by omega) k (by omega), U.bs]
  congr 2; omega
theorem wadd_eq (v u : Nat) (hv : v < 340282366920938463463374607431768211456) (hu : u < 340282366920938463463374607431768211456) :
    wide_Wide_Add.f ((v / 18446744073709551616 : Nat) : Int) ((v % 18446744073709551616 : Nat) : Int) ((u / 18446744073709551616 : Nat) : Int) ((u % 18446744073709551616 : Nat) : Int) =
      some ((((v + u) % 340282366920938463463374607431768211456 / 18446744073709551616 : Nat) : Int), (((v + u) % 340282366920938463463374607431768211456 % 18446744073709551616 : Nat) : Int), decide (340282366920938463463374607431768211456 ≤ v + u)) := by
  unfold wide_Wide_Add.f bits_Add64.f UX.addF
  rw [if_pos (by omega), U.bs, if_pos (by omega), U.bs]
  congr 2
  · omega
  · congr 1
    · omega
    · rw [Bool.eq_iff_iff]; simp only [beq_iff_eq, decide_eq_true_eq]; omega
theorem wsub_eq (v u : Nat) (hv : v < 340282366920938463463374607431768211456) (hu : u < 340282366920938463463374607431768211456) :
    wide_Wide_Sub.f ((v / 18446744073709551616 : Nat) : Int) ((v % 18446744073709551616 : Nat) : Int) ((u / 18446744073709551616 : Nat) : Int) ((u % 18446744073709551616 : Nat) : Int) =
      some ((((v + 340282366920938463463374607431768211456 - u) % 340282366920938463463374607431768211456 / 18446744073709551616 : Nat) : Int), (((v + 340282366920938463463374607431768211456 - u) % 340282366920938463463374607431768211456 % 18446744073709551616 : Nat) : Int), decide (v < u)) := by
  unfold wide_Wide_Sub.f bits_Sub64.f UX.subF
  rw [if_pos (by omega), U.bs, if_pos (by simp only; split <;> omega), U.bs]
  simp only
  by_cases c : ((v % 18446744073709551616 : Nat) : Int) < ((u % 18446744073709551616 : Nat) : Int) + 0
  · rw [if_pos c]
    congr 2
    · omega
    · congr 1
      · omega
      · rw [Bool.eq_iff_iff]; simp only [beq_iff_eq, decide_eq_true_eq]; split <;> omega
  · rw [if_neg c]
    congr 2
    · omega
    · congr 1
      · omega
      · rw [Bool.eq_iff_iff]; simp only [beq_iff_eq, decide_eq_true_eq]; split <;> omega
theorem bitLen_blen (n : Nat) : bitLen n = U.blen n := by
  obtain ⟨h1, h2⟩ := bitLen_spec n
  have a := (U.blen_le (bitLen n) n).2 h1
  by_cases h : n = 0
  · subst h; rw [U.blen_zero]; rfl
  · have b := (U.blen_le (bitLen n - 1) n)
    have c := h2 h
    have d : bitLen n ≠ 0 := by
      intro e; rw [e] at h1; omega
    omega
set_option maxRecDepth 100000 in
theorem bt_len8 (i : Nat) (h : i < 256) : bt (⟨#[0, 1, 2, 2, 3, 3, 3, 3, 4, 4, 4, 4, 4, 4, 4, 4, 5, 5, 5, 5, 5, 5, 5, 5, 5, 5, 5, 5, 5, 5, 5, 5, 6, 6, 6, 6, 6, 6, 6, 6, 6, 6, 6, 6, 6, 6, 6, 6, 6, 6, 6, 6, 6, 6, 6, 6, 6, 6, 6, 6, 6, 6, 6, 6, 7, 7, 7, 7, 7, 7, 7, 7, 7, 7, 7, 7, 7, 7, 7, 7, 7, 7, 7, 7, 7, 7, 7, 7, 7, 7, 7, 7, 7, 7, 7, 7, 7, 7, 7, 7, 7, 7, 7, 7, 7, 7, 7, 7, 7, 7, 7, 7, 7, 7, 7, 7, 7, 7, 7, 7, 7, 7, 7, 7, 7, 7, 7, 7, 8, 8, 8, 8, 8, 8, 8, 8, 8, 8, 8, 8, 8, 8, 8, 8, 8, 8, 8, 8, 8, 8, 8, 8, 8, 8, 8, 8, 8, 8, 8, 8, 8, 8, 8, 8, 8, 8, 8, 8, 8, 8, 8, 8, 8, 8, 8, 8, 8, 8, 8, 8, 8, 8, 8, 8, 8, 8, 8, 8, 8, 8, 8, 8, 8, 8, 8, 8, 8, 8, 8, 8, 8, 8, 8, 8, 8, 8, 8, 8, 8, 8, 8, 8, 8, 8, 8, 8, 8, 8, 8, 8, 8, 8, 8, 8, 8, 8, 8, 8, 8, 8, 8, 8, 8, 8, 8, 8, 8, 8, 8, 8, 8, 8, 8, 8, 8, 8, 8, 8, 8, 8, 8, 8, 8, 8, 8, 8]⟩ : ByteArray) (i : Int) = ((U.blen i : Nat) : Int) := by
  unfold bt
  have hs : (i : Int).toNat < ((⟨#[0, 1, 2, 2, 3, 3, 3, 3, 4, 4, 4, 4, 4, 4, 4, 4, 5, 5, 5, 5, 5, 5, 5, 5, 5, 5, 5, 5, 5, 5, 5, 5, 6, 6, 6, 6, 6, 6, 6, 6, 6, 6, 6, 6, 6, 6, 6, 6, 6, 6, 6, 6, 6, 6, 6, 6, 6, 6, 6, 6, 6, 6, 6, 6, 7, 7, 7, 7, 7, 7, 7, 7, 7, 7, 7, 7, 7, 7, 7, 7, 7, 7, 7, 7, 7, 7, 7, 7, 7, 7, 7, 7, 7, 7, 7, 7, 7, 7, 7, 7, 7, 7, 7, 7, 7, 7, 7, 7, 7, 7, 7, 7, 7, 7, 7, 7, 7, 7, 7, 7, 7, 7, 7, 7, 7, 7, 7, 7, 8, 8, 8, 8, 8, 8, 8, 8, 8, 8, 8, 8, 8, 8, 8, 8, 8, 8, 8, 8, 8, 8, 8, 8, 8, 8, 8, 8, 8, 8, 8, 8, 8, 8, 8, 8, 8, 8, 8, 8, 8, 8, 8, 8, 8, 8, 8, 8, 8, 8, 8, 8, 8, 8, 8, 8, 8, 8, 8, 8, 8, 8, 8, 8, 8, 8, 8, 8, 8, 8, 8, 8, 8, 8, 8, 8, 8, 8, 8, 8, 8, 8, 8, 8, 8, 8, 8, 8, 8, 8, 8, 8, 8, 8, 8, 8, 8, 8, 8, 8, 8, 8, 8, 8, 8, 8, 8, 8, 8, 8, 8, 8, 8, 8, 8, 8, 8, 8, 8, 8, 8, 8, 8, 8, 8, 8, 8, 8]⟩ : ByteArray)).size := by rw [Int.toNat_natCast]; exact h
  rw [dif_pos hs]
  have := len8tab_get (i : Int).toNat hs
  rw [this, Int.toNat_natCast, bitLen_blen]
theorem blen_shift (x b : Nat) (h : x / 2 ^ b ≠ 0) : U.blen x = b + U.blen (x / 2 ^ b) := by
  rw [← bitLen_blen, ← bitLen_blen]; exact bitLen_shift x b h
theorem len64_j0 (k x y : Nat) (hx : x < 4294967296) (hy : y ≤ 32) : bits_Len64.j0 (k + 1) (x : Int) (y : Int) = some ((y + U.blen x : Nat) : Int) := by
  have w1 : wrap64 ((y : Int) + 16) = (y : Int) + 16 := U.wrap64_id (by omega) (by omega)
  have w2 : wrap64 ((y : Int) + 8) = (y : Int) + 8 := U.wrap64_id (by omega) (by omega)
  have w3 : wrap64 ((y : Int) + 16 + 8) = (y : Int) + 16 + 8 := U.wrap64_id (by omega) (by omega)
  have small : ∀ i : Nat, i < 256 → U.blen i ≤ 8 := fun i hi => (U.blen_le 8 i).2 hi
  rw [bits_Len64.j0]
  by_cases h1 : (x : Int) ≥ 65536
  · rw [if_pos h1]
    have e1 : (x : Int) / 65536 = ((x / 65536 : Nat) : Int) := by omega
    have s1 := blen_shift x 16 (by show x / 65536 ≠ 0; omega)
    rw [show (2 : Nat) ^ 16 = 65536 from rfl] at s1
    rw [e1]
    by_cases h2 : ((x / 65536 : Nat) : Int) ≥ 256
    · have s2 := blen_shift (x / 65536) 8 (by show x / 65536 / 256 ≠ 0; omega)
      rw [show (2 : Nat) ^ 8 = 256 from rfl] at s2
      have e2 : ((x / 65536 : Nat) : Int) / 256 % 256 = ((x / 65536 / 256 : Nat) : Int) := by omega
      have b := small (x / 65536 / 256) (by omega)
      rw [if_pos h2, e2, if_pos (by omega), if_pos (by omega), bt_len8 _ (by omega), w1, w3]
      rw [U.wrap64_id (a := ((U.blen (x / 65536 / 256) : Nat) : Int)) (by omega) (by omega), U.wrap64_id (by omega) (by omega)]
      exact congrArg some (by omega)
    · have e2 : ((x / 65536 : Nat) : Int) % 256 = ((x / 65536 : Nat) : Int) := by omega
      have b := small (x / 65536) (by omega)
      rw [if_neg h2, e2, if_pos (by omega), if_pos (by omega), bt_len8 _ (by omega), w1]
      rw [U.wrap64_id (a := ((U.blen (x / 65536) : Nat) : Int)) (by omega) (by omega), U.wrap64_id (by omega) (by omega)]
      exact congrArg some (by omega)
  · rw [if_neg h1]
    by_cases h2 : (x : Int) ≥ 256
    · have s2 := blen_shift x 8 (by show x / 256 ≠ 0; omega)
      rw [show (2 : Nat) ^ 8 = 256 from rfl] at s2
      have e2 : (x : Int) / 256 % 256 = ((x / 256 : Nat) : Int) := by omega
      have b := small (x / 256) (by omega)
      rw [if_pos h2, e2, if_pos (by omega), if_pos (by omega), bt_len8 _ (by omega), w2]
      rw [U.wrap64_id (a := ((U.blen (x / 256) : Nat) : Int)) (by omega) (by omega), U.wrap64_id (by omega) (by omega)]
      exact congrArg some (by omega)
    · have e2 : (x : Int) % 256 = ((x : Nat) : Int) := by omega
      have b := small x (by omega)
      rw [if_neg h2, e2, if_pos (by omega), if_pos (by omega), bt_len8 _ (by omega)]
      rw [U.wrap64_id (a := ((U.blen x : Nat) : Int)) (by omega) (by omega), U.wrap64_id (by omega) (by omega)]
      exact congrArg some (by omega)
theorem len64_eq (k x : Nat) (hx : x < 18446744073709551616) : bits_Len64.f (k + 1) (x : Int) = some ((U.blen x : Nat) : Int) := by
  unfold bits_Len64.f
  by_cases h : (x : Int) ≥ 4294967296
  · have e : (x : Int) / 4294967296 = ((x / 4294967296 : Nat) : Int) := by omega
    have s := blen_shift x 32 (by show x / 4294967296 ≠ 0; omega)
    rw [show (2 : Nat) ^ 32 = 4294967296 from rfl] at s
    have j := len64_j0 k (x / 4294967296) 32 (by omega) (by omega)
    rw [show ((32 : Nat) : Int) = 32 from rfl] at j
    rw [if_pos h, e, j, s]
  · have j := len64_j0 k x 0 (by omega) (by omega)
    rw [Nat.zero_add] at j
    rw [if_neg h]; exact j
theorem wlen_eq (k v : Nat) (hv : v < 340282366920938463463374607431768211456) : wide_Wide_Len.f (k + 1) ((v / 18446744073709551616 : Nat) : Int) ((v % 18446744073709551616 : Nat) : Int) = some ((U.blen v : Nat) : Int) := by
  unfold wide_Wide_Len.f
  by_cases h : ((v / 18446744073709551616 : Nat) : Int) = 0
  · rw [if_pos h, len64_eq k _ (by omega), U.bs]
    have : v % 18446744073709551616 = v := by omega
    rw [this]
  · have s := blen_shift v 64 (by rw [p64]; omega)
    rw [p64] at s
    have b := (U.blen_le 64 (v / 18446744073709551616)).2 (by omega)
    rw [if_neg h, len64_eq k _ (by omega), U.bs, U.wrap64_id (by omega) (by omega), s]
    rfl
set_option maxHeartbeats 1000000 in
theorem WideSums : gimballaw02_WideSums.Pure := by
  intro h l h' l' wh wl wh' wl'
  obtain ⟨h0, h1⟩ := U.wf_u64 wh
  obtain ⟨l0, l1⟩ := U.wf_u64 wl
  obtain ⟨h0', h1'⟩ := U.wf_u64 wh'
  obtain ⟨l0', l1'⟩ := U.wf_u64 wl'
  obtain ⟨h, rfl⟩ := Int.eq_ofNat_of_zero_le h0
  obtain ⟨l, rfl⟩ := Int.eq_ofNat_of_zero_le l0
  obtain ⟨h', rfl⟩ := Int.eq_ofNat_of_zero_le h0'
  obtain ⟨l', rfl⟩ := Int.eq_ofNat_of_zero_le l0'
  obtain ⟨v, hv, e1, e2⟩ : ∃ v : Nat, v < 340282366920938463463374607431768211456 ∧ h = v / 18446744073709551616 ∧ l = v % 18446744073709551616 := ⟨h * 18446744073709551616 + l, by omega, by omega, by omega⟩
  obtain ⟨u, hu, e1', e2'⟩ : ∃ v : Nat, v < 340282366920938463463374607431768211456 ∧ h' = v / 18446744073709551616 ∧ l' = v % 18446744073709551616 := ⟨h' * 18446744073709551616 + l', by omega, by omega, by omega⟩
  subst e1 e2 e1' e2'
  suffices q : ∀ k, 3000000 < k → gimballaw02_WideSums.f (k + 1) ((v / 18446744073709551616 : Nat) : Int) ((v % 18446744073709551616 : Nat) : Int) ((u / 18446744073709551616 : Nat) : Int) ((u % 18446744073709551616 : Nat) : Int) = some true from ⟨3000001 + 1, q _ (by omega)⟩
  intro k hk
  have p : (2 : Nat) ^ 128 = 340282366920938463463374607431768211456 := by decide
  have p2 : (2 : Nat) ^ 129 = 680564733841876926926749214863536422912 := by decide
  have bv := (U.blen_le 128 v).2 (by omega)
  have bu := (U.blen_le 128 u).2 (by omega)
  have bs := (U.blen_le 129 (v + u)).2 (by omega)
  have bf : U.blen 340282366920938463463374607431768211456 ≤ 129 := (U.blen_le 129 _).2 (by omega)
  have bd := (U.blen_le 129 (v + 340282366920938463463374607431768211456)).2 (by omega)
  have bd2 := (U.blen_le 129 (v + 340282366920938463463374607431768211456 - u)).2 (by omega)
  have b1 : U.blen 1 ≤ 2 := (U.blen_le _ _).2 (by decide)
  have up := up_binl 1 128 (by omega) (k + 1) (by omega)
  rw [U.binl_one, show ((128 : Nat) : Int) = 128 from rfl, Nat.one_mul, p] at up
  have b128 := U.blen_le 128 (v + u)
  have cs := U.cmp3_cases ((v : Nat) : Int) ((u : Nat) : Int)
  unfold gimballaw02_WideSums.f
  rw [head_eq (k + 1) (by omega), U.bs, if_pos rfl, list_eq v hv (k + 1) (by omega), U.bs, list_eq u hu (k + 1) (by omega), U.bs, add_binl v u 129 (by omega) (by omega) (by omega) (k + 1) (by omega), U.bs,
    wadd_eq v u hv hu, U.bs, wsub_eq v u hv hu, U.bs, up, U.bs, add_binl v _ 129 (by omega) bf (by omega) (k + 1) (by omega), U.bs, sub_binl _ u (by omega) (by omega) (k + 1) (by omega), U.bs, back_eq _ (k + 1) (by omega) (by omega), U.bs]
  simp only
  rw [if_pos (by rw [Bool.and_eq_true, beq_iff_eq, beq_iff_eq]; omega), if_pos (by
      rw [beq_iff_eq, Bool.eq_iff_iff, decide_eq_true_eq, decide_eq_true_eq]
      show _ ↔ ((U.blen (v + u) : Nat) : Int) > 128
      omega), back_eq _ (k + 1) (by omega) (by omega), U.bs]
  simp only
  rw [if_pos (by rw [Bool.and_eq_true, beq_iff_eq, beq_iff_eq]; omega), refcmp_binl v u (by omega) (by omega) (k + 1) (by omega) (by omega), U.bs, if_pos (by
      rw [beq_iff_eq, Bool.eq_iff_iff, decide_eq_true_eq, decide_eq_true_eq]
      omega), wcmp_eq k v u, U.bs, U.bs, if_pos rfl, wlen_eq k v hv, U.bs, if_pos (show ((U.blen v : Nat) : Int) = ((U.binl v).length : Int) from rfl), wzero_eq v hv, U.bs]
  congr 1
  rw [beq_iff_eq, Bool.eq_iff_iff, decide_eq_true_eq, beq_iff_eq]
  show _ ↔ ((U.blen v : Nat) : Int) = 0
  have z := U.blen_eq_zero (n := v)
  omega
end Go.Proofs.Ytjamobbfafjdmaa.Pure
