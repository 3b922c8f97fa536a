/- The law WideLaws of layer 2: products of sums, and what goes up and down again, are as the law says; no condition beyond the words' own range. -/
import Derived.Test.YtjamobbfafjdmaaQWideLawsx5
import Derived.Test.YtjamobbfafjdmaaU
import Derived.Test.YtjamobbfafjdmaaUB
import Derived.Test.YtjamobbfafjdmaaUX
set_option linter.unusedSimpArgs false
set_option linter.unusedVariables false
set_option exponentiation.threshold 5000
namespace Go.Proofs.Ytjamobbfafjdmaa.Pure
open Go.RowKit Go.Proofs.Ytjamobbfafjdmaa Go.Proofs.Ytjamobbfafjdmaa.QWideLaws Go.Proofs.YtjamobbfafjdmaaW.PrintWords Go.Proofs.YtjamobbfafjdmaaW.PrintLast
theorem mul64_eq (x y : Int) (hx0 : 0 ≤ x) (hx : x < 18446744073709551616) (hy0 : 0 ≤ y) (hy : y < 18446744073709551616) : bits_Mul64.f x y = some (x * y / 18446744073709551616, x * y % 18446744073709551616) := by
  have h := mul64_arith x y hx0 hx hy0 hy
  unfold bits_Mul64.f
  rw [and_low32 x hx0 hx, and_low32 y hy0 hy]
  simp only [U.wrap_u64]
  rw [and_low32 _ (Int.emod_nonneg _ (by decide)) (Int.emod_lt_of_pos _ (by decide)), h]
theorem wmul_eq (a b : Nat) (ha : a < 18446744073709551616) (hb : b < 18446744073709551616) : wide_Mul.f (a : Int) (b : Int) = some (((a * b / 18446744073709551616 : Nat) : Int), ((a * b % 18446744073709551616 : Nat) : Int)) := by
  unfold wide_Mul.f
  rw [mul64_eq _ _ (by omega) (by omega) (by omega) (by omega), Option.bind_some]
  simp
theorem mul_lt_sq {a b : Nat} (ha : a < 18446744073709551616) (hb : b < 18446744073709551616) : a * b < 340282366920938463463374607431768211456 := by
  have := Nat.mul_lt_mul'' ha hb
  omega
theorem wcmp_eq (k : Nat) (v u : Nat) : wide_Wide_Cmp.f (k + 1) ((v / 18446744073709551616 : Nat) : Int) ((v % 18446744073709551616 : Nat) : Int) ((u / 18446744073709551616 : Nat) : Int) ((u % 18446744073709551616 : Nat) : Int) = some (U.cmp3 v u) := by
  unfold wide_Wide_Cmp.f U.cmp3
  simp only [wide_Wide_Cmp.j0]
  by_cases h1 : ((v / 18446744073709551616 : Nat) : Int) < ((u / 18446744073709551616 : Nat) : Int)
  · rw [if_pos h1, if_pos (show (v : Int) < (u : Int) by omega)]; rfl
  · rw [if_neg h1]
    by_cases h2 : ((v / 18446744073709551616 : Nat) : Int) = ((u / 18446744073709551616 : Nat) : Int)
    · rw [if_pos h2]
      by_cases h3 : ((v % 18446744073709551616 : Nat) : Int) < ((u % 18446744073709551616 : Nat) : Int)
      · rw [if_pos (by simpa using h3), if_pos (by omega)]
      · rw [if_neg (by simpa using h3), h2, beq_self_eq_true, Bool.true_and]
        by_cases h4 : ((v % 18446744073709551616 : Nat) : Int) = ((u % 18446744073709551616 : Nat) : Int)
        · rw [if_pos (by simpa using h4), if_neg (by omega), if_neg (by omega)]
        · rw [if_neg (by simpa using h4), if_neg (by omega), if_pos (by omega)]
    · rw [if_neg h2, if_neg (by decide), beq_eq_false_iff_ne.mpr h2, Bool.false_and, if_neg (by decide), if_neg (by omega), if_pos (by omega)]
theorem sqrt_l0 (A : Nat) (n : Nat) : ∀ (k root : Nat), n ≤ 64 → n + 3 < k → root % 2 ^ n = 0 → root + 2 ^ n ≤ 18446744073709551616 → root * root ≤ A → A < (root + 2 ^ n) * (root + 2 ^ n) →
    ∃ r : Nat, wide_Wide_Sqrt.l0 k (root : Int) ((n : Int) - 1) ((A / 18446744073709551616 : Nat) : Int) ((A % 18446744073709551616 : Nat) : Int) = some ((r : Int), decide (r * r = A)) ∧ r * r ≤ A ∧ A < (r + 1) * (r + 1) ∧ r < 18446744073709551616 := by
  induction n with
  | zero =>
    intro k root _ hk _ hb h1 h2
    obtain ⟨k, rfl⟩ : ∃ m, k = m + 1 := ⟨k - 1, by omega⟩
    refine ⟨root, ?_, h1, by simpa using h2, by omega⟩
    rw [wide_Wide_Sqrt.l0, if_neg (by omega), wmul_eq root root (by omega) (by omega), Option.bind_some]
    congr 2
    rw [Bool.eq_iff_iff]
    simp only [Bool.and_eq_true, beq_iff_eq, decide_eq_true_eq]
    omega
  | succ n ih =>
    intro k root hn hk hm hb h1 h2
    obtain ⟨k, rfl⟩ : ∃ m, k = m + 2 := ⟨k - 2, by omega⟩
    have hp := Nat.two_pow_pos n
    have hps : 2 ^ (n + 1) = 2 * 2 ^ n := by rw [Nat.pow_succ, Nat.mul_comm]
    have hle : 2 ^ n ≤ 2 ^ 63 := Nat.pow_le_pow_right (by decide) (by omega)
    have e : ((n + 1 : Nat) : Int) - 1 = (n : Int) := by omega
    have hw : wrap64 ((n : Int) - 1) = (n : Int) - 1 := U.wrap64_id (by omega) (by omega)
    have es : shl .u64 1 (n : Int) = ((2 ^ n : Nat) : Int) := by
      unfold shl
      rw [Int.toNat_natCast, Nat.min_eq_left (by show n ≤ 64; omega), Int.one_mul]
      have : ((2 : Int) ^ n) = ((2 ^ n : Nat) : Int) := by simp
      rw [this, U.wrap_u64_id (by omega) (by omega)]
    have eo : bits .or .u64 (root : Int) ((2 ^ n : Nat) : Int) = ((root + 2 ^ n : Nat) : Int) := by
      have z : (root : Int) % 2 ^ (n + 1) = 0 := by
        have c : ((2 : Int) ^ (n + 1)) = ((2 ^ (n + 1) : Nat) : Int) := by simp
        rw [c]; omega
      have lt : ((2 ^ n : Nat) : Int) < 2 ^ (n + 1) := by
        have c : ((2 : Int) ^ (n + 1)) = ((2 ^ (n + 1) : Nat) : Int) := by simp
        rw [c]; omega
      rw [U.or_join (n + 1) (by omega) (by omega) z (by omega) (by omega) lt]; omega
    have m0 : root % 2 ^ n = 0 := by
      have := Nat.mod_mod_of_dvd root (Nat.pow_dvd_pow 2 (Nat.le_succ n))
      rw [← this, hm, Nat.zero_mod]
    have m1 : (root + 2 ^ n) % 2 ^ n = 0 := by rw [Nat.add_mod_right, m0]
    rw [wide_Wide_Sqrt.l0, e, if_pos (by omega), if_pos (by omega), es, eo, hw, wmul_eq (root + 2 ^ n) (root + 2 ^ n) (by omega) (by omega)]
    simp only [Option.bind_some]
    rw [wcmp_eq]
    simp only [Option.bind_some]
    have cs := U.cmp3_cases (((root + 2 ^ n) * (root + 2 ^ n) : Nat) : Int) (A : Int)
    by_cases hc : (root + 2 ^ n) * (root + 2 ^ n) ≤ A
    · rw [if_pos (by omega)]
      refine ih (k + 1) (root + 2 ^ n) (by omega) (by omega) m1 (by omega) hc ?_
      have : root + 2 ^ n + 2 ^ n = root + 2 ^ (n + 1) := by omega
      rw [this]; exact h2
    · rw [if_neg (by omega)]
      exact ih (k + 1) root (by omega) (by omega) m0 (by omega) h1 (by omega)
theorem sqrt_eq (A : Nat) (hA : A < 340282366920938463463374607431768211456) (k : Nat) (hk : 70 < k) :
    ∃ r : Nat, wide_Wide_Sqrt.f k ((A / 18446744073709551616 : Nat) : Int) ((A % 18446744073709551616 : Nat) : Int) = some ((r : Int), decide (r * r = A)) ∧ r * r ≤ A ∧ A < (r + 1) * (r + 1) ∧ r < 18446744073709551616 := by
  unfold wide_Wide_Sqrt.f
  exact sqrt_l0 A 64 k 0 (by omega) (by omega) (by decide) (by decide) (by omega) (by omega)
theorem root_unique {A r s : Nat} (h1 : r * r ≤ A) (h2 : A < (r + 1) * (r + 1)) (h3 : s * s ≤ A) (h4 : A < (s + 1) * (s + 1)) : r = s := by
  have a : r < s + 1 := Nat.mul_self_lt_mul_self_iff.mp (Nat.lt_of_le_of_lt h1 h4)
  have b : s < r + 1 := Nat.mul_self_lt_mul_self_iff.mp (Nat.lt_of_le_of_lt h3 h2)
  omega
theorem head_eq (k : Nat) (hk : 70 < k) : gimballaw02_head.f k = some true := by
  unfold gimballaw02_head.f
  have m := wmul_eq 9223372036854775808 4 (by decide) (by decide)
  obtain ⟨r, e, h1, h2, _⟩ := sqrt_eq (9223372036854775808 * 4) (by decide) k hk
  have hr : r = 6074000999 := root_unique h1 h2 (by decide) (by decide)
  rw [show ((9223372036854775808 : Nat) : Int) = 9223372036854775808 from rfl, show ((4 : Nat) : Int) = 4 from rfl] at m
  rw [m]
  simp only [Option.bind_some]
  rw [e]
  simp only [Option.bind_some]
  rw [hr]
  decide
theorem shl_pow (x : Nat) (s : Nat) (hs : s ≤ 64) : shl .u64 (x : Int) (s : Int) = ((x * 2 ^ s % 18446744073709551616 : Nat) : Int) := by
  unfold shl
  rw [Int.toNat_natCast, Nat.min_eq_left (by show s ≤ 64; exact hs), U.wrap_u64]
  have : (x : Int) * 2 ^ s = ((x * 2 ^ s : Nat) : Int) := by simp
  rw [this]; omega
theorem shr_pow (x : Nat) (s : Nat) (hs : s ≤ 64) : shr .u64 (x : Int) (s : Int) = ((x / 2 ^ s : Nat) : Int) := by
  unfold shr
  rw [Int.toNat_natCast, Nat.min_eq_left (by show s ≤ 64; exact hs)]
  simp
theorem or_nat (i x y : Nat) (hi : i ≤ 64) (hx : x % 2 ^ i = 0) (hx1 : x < 18446744073709551616) (hy : y < 2 ^ i) : bits .or .u64 (x : Int) (y : Int) = ((x + y : Nat) : Int) := by
  have z : (x : Int) % 2 ^ i = 0 := by
    have c : ((2 : Int) ^ i) = ((2 ^ i : Nat) : Int) := by simp
    rw [c]; omega
  have lt : (y : Int) < 2 ^ i := by
    have c : ((2 : Int) ^ i) = ((2 ^ i : Nat) : Int) := by simp
    rw [c]; omega
  rw [U.or_join i hi (by omega) z (by omega) (by omega) lt]; omega
theorem pow_split (s : Nat) (hs : s ≤ 64) : 2 ^ s * 2 ^ (64 - s) = 18446744073709551616 := by
  rw [← Nat.pow_add]
  have : s + (64 - s) = 64 := by omega
  rw [this]
theorem p64 : (2 : Nat) ^ 64 = 18446744073709551616 := by decide
theorem p128 : (2 : Nat) ^ 128 = 18446744073709551616 * 18446744073709551616 := by decide
theorem mod_split (x P Q : Nat) (hPQ : P * Q = 18446744073709551616) : x * Q % 18446744073709551616 = x % P * Q := by rw [← hPQ, Nat.mul_mod_mul_right]
theorem ne_pair (a b c d : Int) : (!(a == c) || !(b == d)) = !(decide (a = c ∧ b = d)) := by
  by_cases h1 : a = c
  · by_cases h2 : b = d
    · simp [h1, h2]
    · simp [h1, h2]
  · simp [h1]
/-- The high word of h B + l times 2^s, and the low one. -/
theorem left_arith (h l P Q : Nat) (hPQ : P * Q = 18446744073709551616) (hP : 0 < P) (hQ : 0 < Q) (hl : l < 18446744073709551616) :
    ((h * 18446744073709551616 + l) * P / 18446744073709551616 % 18446744073709551616 = h * P % 18446744073709551616 + l / Q) ∧
    ((h * 18446744073709551616 + l) * P % 18446744073709551616 = l * P % 18446744073709551616) ∧ h * P % 18446744073709551616 % P = 0 ∧ l / Q < P ∧ h * P % 18446744073709551616 + l / Q < 18446744073709551616 := by
  have e1 : (h * 18446744073709551616 + l) * P = h * P * 18446744073709551616 + l * P := by rw [Nat.add_mul]; congr 1; rw [Nat.mul_assoc, Nat.mul_comm 18446744073709551616, ← Nat.mul_assoc]
  have d1 : l = Q * (l / Q) + l % Q := (Nat.div_add_mod l Q).symm
  have m1 : l % Q < Q := Nat.mod_lt _ hQ
  have e2 : l * P = 18446744073709551616 * (l / Q) + l % Q * P := by
    conv => lhs; rw [d1]
    rw [Nat.add_mul, ← hPQ, Nat.mul_comm Q, Nat.mul_assoc, Nat.mul_comm (l / Q), Nat.mul_comm Q P]
  have b2 : l % Q * P < 18446744073709551616 := by
    rw [← hPQ, Nat.mul_comm P Q]; exact Nat.mul_lt_mul_of_pos_right m1 hP
  have e3 : l / Q < P := by
    rw [Nat.div_lt_iff_lt_mul hQ]; omega
  have d2 : h * P % 18446744073709551616 = h % Q * P := by
    conv => lhs; rw [← hPQ, Nat.mul_comm h P, Nat.mul_mod_mul_left, Nat.mul_comm]
  have m2 : h % Q < Q := Nat.mod_lt _ hQ
  have b3 : h % Q * P + P ≤ 18446744073709551616 := by
    have : (h % Q + 1) * P ≤ Q * P := Nat.mul_le_mul_right P m2
    rw [Nat.add_mul, Nat.one_mul, Nat.mul_comm Q P, hPQ] at this
    exact this
  refine ⟨?_, ?_, ?_, e3, by omega⟩
  · rw [e1, e2]; omega
  · rw [e1]; omega
  · rw [d2, Nat.mul_mod_left]
theorem left_eq (v : Nat) (hv : v < 340282366920938463463374607431768211456) (n : Int) (hn : -9223372036854775808 ≤ n) (hn' : n < 9223372036854775808) :
    wide_Wide_Left.f ((v / 18446744073709551616 : Nat) : Int) ((v % 18446744073709551616 : Nat) : Int) n = some (((v * 2 ^ n.toNat / 18446744073709551616 % 18446744073709551616 : Nat) : Int), ((v * 2 ^ n.toNat % 18446744073709551616 : Nat) : Int)) := by
  unfold wide_Wide_Left.f
  by_cases h0 : n ≤ 0
  · have : n.toNat = 0 := by omega
    rw [if_pos h0, this, Nat.pow_zero, Nat.mul_one]
    congr 2; omega
  · rw [if_neg h0]
    obtain ⟨s, rfl⟩ := Int.eq_ofNat_of_zero_le (by omega : 0 ≤ n)
    rw [Int.toNat_natCast]
    by_cases h1 : (s : Int) ≥ 128
    · rw [if_pos h1]
      obtain ⟨t, rfl⟩ : ∃ t, s = t + 128 := ⟨s - 128, by omega⟩
      have e : v * 2 ^ (t + 128) = v * 2 ^ t * 18446744073709551616 * 18446744073709551616 := by
        rw [Nat.pow_add, p128, ← Nat.mul_assoc, ← Nat.mul_assoc]
      rw [e]
      generalize v * 2 ^ t = z
      have z1 : z * 18446744073709551616 * 18446744073709551616 / 18446744073709551616 % 18446744073709551616 = 0 := by omega
      have z2 : z * 18446744073709551616 * 18446744073709551616 % 18446744073709551616 = 0 := by omega
      rw [z1, z2]; rfl
    · rw [if_neg h1]
      by_cases h2 : (s : Int) ≥ 64
      · obtain ⟨t, rfl⟩ : ∃ t, s = t + 64 := ⟨s - 64, by omega⟩
        have hw : wrap64 (((t + 64 : Nat) : Int) - 64) = (t : Int) := by rw [U.wrap64_id (by omega) (by omega)]; omega
        rw [if_pos h2, hw, if_pos (by omega), shl_pow _ _ (by omega)]
        have e : v * 2 ^ (t + 64) = v * 2 ^ t * 18446744073709551616 := by
          rw [Nat.pow_add, p64, ← Nat.mul_assoc]
        have e2 : v % 18446744073709551616 * 2 ^ t % 18446744073709551616 = v * 2 ^ t % 18446744073709551616 := Nat.mod_mul_mod _ _ _
        rw [e, e2]
        generalize v * 2 ^ t = z
        have z1 : z * 18446744073709551616 / 18446744073709551616 % 18446744073709551616 = z % 18446744073709551616 := by omega
        have z2 : z * 18446744073709551616 % 18446744073709551616 = 0 := by omega
        rw [z1, z2]; rfl
      · have hw : wrap64 (64 - (s : Int)) = ((64 - s : Nat) : Int) := by rw [U.wrap64_id (by omega) (by omega)]; omega
        obtain ⟨a1, a2, a3, a4, a5⟩ := left_arith (v / 18446744073709551616) (v % 18446744073709551616) (2 ^ s) (2 ^ (64 - s)) (pow_split s (by omega)) (Nat.two_pow_pos _) (Nat.two_pow_pos _) (by omega)
        rw [if_neg h2, if_pos (by omega), hw, if_pos (by omega), shl_pow _ _ (by omega), shl_pow _ _ (by omega), shr_pow _ _ (by omega),
          or_nat s _ _ (by omega) a3 (by omega) a4]
        have ev : v / 18446744073709551616 * 18446744073709551616 + v % 18446744073709551616 = v := by omega
        rw [ev] at a1 a2
        rw [a1, a2]
theorem wzero_eq (v : Nat) (hv : v < 340282366920938463463374607431768211456) : wide_Wide_Zero.f ((v / 18446744073709551616 : Nat) : Int) ((v % 18446744073709551616 : Nat) : Int) = some (decide (v = 0)) := by
  unfold wide_Wide_Zero.f
  rw [u64_or_nat _ _ (by omega) (by omega)]
  congr 1
  rw [Bool.eq_iff_iff]
  simp only [beq_iff_eq, decide_eq_true_eq]
  constructor
  · intro h
    have h1 : v / 18446744073709551616 ||| v % 18446744073709551616 = 0 := by omega
    have := Nat.or_eq_zero_iff.mp h1
    omega
  · rintro rfl; decide
theorem right_eq (v : Nat) (hv : v < 340282366920938463463374607431768211456) (n : Int) (hn : -9223372036854775808 ≤ n) (hn' : n < 9223372036854775808) :
    wide_Wide_Right.f ((v / 18446744073709551616 : Nat) : Int) ((v % 18446744073709551616 : Nat) : Int) n = some (((v / 2 ^ n.toNat / 18446744073709551616 : Nat) : Int), ((v / 2 ^ n.toNat % 18446744073709551616 : Nat) : Int), decide (v % 2 ^ n.toNat ≠ 0)) := by
  unfold wide_Wide_Right.f
  by_cases h0 : n ≤ 0
  · have : n.toNat = 0 := by omega
    rw [if_pos h0, this, Nat.pow_zero, Nat.div_one, Nat.mod_one]
    simp
  · rw [if_neg h0]
    obtain ⟨s, rfl⟩ := Int.eq_ofNat_of_zero_le (by omega : 0 ≤ n)
    have hz := left_eq 0 (by decide) (s : Int) hn hn'
    rw [Int.toNat_natCast] at hz ⊢
    have hp := Nat.two_pow_pos s
    by_cases h1 : (s : Int) ≥ 128
    · have big : v < 2 ^ s := Nat.lt_of_lt_of_le hv (by
        have : 2 ^ 128 ≤ 2 ^ s := Nat.pow_le_pow_right (by decide) (by omega)
        exact this)
      rw [Nat.zero_div, Nat.zero_mod, Nat.zero_mul, Nat.zero_div, Nat.zero_mod, Int.natCast_zero] at hz
      rw [if_pos h1, hz, U.bs, Nat.div_eq_of_lt big, Nat.mod_eq_of_lt big, wzero_eq v hv, U.bs]
      by_cases hv0 : v = 0
      · subst hv0; decide
      · have : (!((0 : Int) == ((v / 18446744073709551616 : Nat) : Int)) || !((0 : Int) == ((v % 18446744073709551616 : Nat) : Int))) = true := by
          simp; omega
        rw [if_pos this]
        simp [hv0]
    · have q : v / 2 ^ s * 2 ^ s ≤ v := Nat.div_mul_le_self v (2 ^ s)
      have dm := Nat.div_add_mod v (2 ^ s)
      rw [Nat.mul_comm] at dm
      have hvs : v / 2 ^ s ≤ v := Nat.div_le_self v _
      have l := left_eq (v / 2 ^ s) (by omega) (s : Int) hn hn'
      rw [Int.toNat_natCast] at l
      have key : ∀ x y : Int, x = ((v / 2 ^ s / 18446744073709551616 : Nat) : Int) → y = ((v / 2 ^ s % 18446744073709551616 : Nat) : Int) →
          ((wide_Wide_Left.f x y (s : Int)).bind fun bt => if (!(bt.1 == ((v / 18446744073709551616 : Nat) : Int)) || !(bt.2 == ((v % 18446744073709551616 : Nat) : Int))) = true then some (x, y, true) else some (x, y, false)) = some (((v / 2 ^ s / 18446744073709551616 : Nat) : Int), ((v / 2 ^ s % 18446744073709551616 : Nat) : Int), decide (v % 2 ^ s ≠ 0)) := by
        rintro x y rfl rfl
        rw [l, U.bs]
        simp only
        rw [ne_pair]
        by_cases hr : v % 2 ^ s = 0
        · have : v / 2 ^ s * 2 ^ s = v := by omega
          have c : ((v / 2 ^ s * 2 ^ s / 18446744073709551616 % 18446744073709551616 : Nat) : Int) = ((v / 18446744073709551616 : Nat) : Int) ∧ ((v / 2 ^ s * 2 ^ s % 18446744073709551616 : Nat) : Int) = ((v % 18446744073709551616 : Nat) : Int) := by rw [this]; omega
          rw [decide_eq_true c, hr]; rfl
        · have c : ¬ (((v / 2 ^ s * 2 ^ s / 18446744073709551616 % 18446744073709551616 : Nat) : Int) = ((v / 18446744073709551616 : Nat) : Int) ∧ ((v / 2 ^ s * 2 ^ s % 18446744073709551616 : Nat) : Int) = ((v % 18446744073709551616 : Nat) : Int)) := by
            generalize v / 2 ^ s * 2 ^ s = z at *
            generalize v % 2 ^ s = y at *
            omega
          rw [decide_eq_false c, decide_eq_true (show v % 2 ^ s ≠ 0 from hr)]; rfl
      rw [if_neg h1]
      by_cases h2 : (s : Int) ≥ 64
      · obtain ⟨t, rfl⟩ : ∃ t, s = t + 64 := ⟨s - 64, by omega⟩
        have hw : wrap64 (((t + 64 : Nat) : Int) - 64) = (t : Int) := by rw [U.wrap64_id (by omega) (by omega)]; omega
        have e : v / 2 ^ (t + 64) = v / 18446744073709551616 / 2 ^ t := by
          rw [Nat.pow_add, p64, Nat.mul_comm, ← Nat.div_div_eq_div_mul]
        have lt : v / 18446744073709551616 / 2 ^ t < 18446744073709551616 := by
          have := Nat.div_le_self (v / 18446744073709551616) (2 ^ t); omega
        rw [if_pos h2, hw, if_pos (by omega), shr_pow _ _ (by omega)]
        refine key 0 _ ?_ ?_
        · rw [e]; generalize v / 18446744073709551616 / 2 ^ t = z at lt; omega
        · rw [e]; generalize v / 18446744073709551616 / 2 ^ t = z at lt; omega
      · have hw : wrap64 (64 - (s : Int)) = ((64 - s : Nat) : Int) := by rw [U.wrap64_id (by omega) (by omega)]; omega
        have hPQ := pow_split s (by omega)
        have hQ := Nat.two_pow_pos (64 - s)
        rw [if_neg h2, if_pos (by omega), hw, if_pos (by omega), shl_pow _ _ (by omega), shr_pow _ _ (by omega), shr_pow _ _ (by omega)]
        have d2 := mod_split (v / 18446744073709551616) (2 ^ s) (2 ^ (64 - s)) hPQ
        have lq : v % 18446744073709551616 / 2 ^ s < 2 ^ (64 - s) := by
          rw [Nat.div_lt_iff_lt_mul hp, Nat.mul_comm, hPQ]; exact Nat.mod_lt _ (by decide)
        have ms : v / 18446744073709551616 % 2 ^ s < 2 ^ s := Nat.mod_lt _ hp
        have b3 : v / 18446744073709551616 % 2 ^ s * 2 ^ (64 - s) + 2 ^ (64 - s) ≤ 18446744073709551616 := by
          have : (v / 18446744073709551616 % 2 ^ s + 1) * 2 ^ (64 - s) ≤ 2 ^ s * 2 ^ (64 - s) := Nat.mul_le_mul_right _ ms
          rw [Nat.add_mul, Nat.one_mul, hPQ] at this
          exact this
        rw [d2, or_nat (64 - s) _ _ (by omega) (Nat.mul_mod_left _ _) (by omega) lq]
        have ev : v = v / 18446744073709551616 * 18446744073709551616 + v % 18446744073709551616 := by omega
        have e : v / 2 ^ s = v / 18446744073709551616 / 2 ^ s * 18446744073709551616 + (v / 18446744073709551616 % 2 ^ s * 2 ^ (64 - s) + v % 18446744073709551616 / 2 ^ s) := by
          have dh := Nat.div_add_mod (v / 18446744073709551616) (2 ^ s)
          have e1 : v = 2 ^ s * (v / 18446744073709551616 / 2 ^ s * 18446744073709551616 + v / 18446744073709551616 % 2 ^ s * 2 ^ (64 - s)) + v % 18446744073709551616 := by
            conv => lhs; rw [ev]
            congr 1
            conv => lhs; rw [← dh]
            rw [Nat.add_mul, Nat.mul_add, Nat.mul_assoc]
            congr 1
            rw [← Nat.mul_assoc, Nat.mul_comm (2 ^ s) (v / 18446744073709551616 % 2 ^ s), Nat.mul_assoc, hPQ]
          conv => lhs; rw [e1]
          rw [Nat.mul_add_div hp]
          omega
        have b4 : v / 18446744073709551616 % 2 ^ s * 2 ^ (64 - s) + v % 18446744073709551616 / 2 ^ s < 18446744073709551616 := by omega
        refine key _ _ ?_ ?_
        · rw [e]
          generalize v / 18446744073709551616 % 2 ^ s * 2 ^ (64 - s) + v % 18446744073709551616 / 2 ^ s = y at b4
          generalize v / 18446744073709551616 / 2 ^ s = x
          omega
        · rw [e]
          generalize v / 18446744073709551616 % 2 ^ s * 2 ^ (64 - s) + v % 18446744073709551616 / 2 ^ s = y at b4
          generalize v / 18446744073709551616 / 2 ^ s = x
          omega
theorem wadd_eq (v u : Nat) (hv : v < 340282366920938463463374607431768211456) (hu : u < 340282366920938463463374607431768211456) :
    wide_Wide_Add.f ((v / 18446744073709551616 : Nat) : Int) ((v % 18446744073709551616 : Nat) : Int) ((u / 18446744073709551616 : Nat) : Int) ((u % 18446744073709551616 : Nat) : Int) =
      some ((((v + u) % 340282366920938463463374607431768211456 / 18446744073709551616 : Nat) : Int), (((v + u) % 340282366920938463463374607431768211456 % 18446744073709551616 : Nat) : Int), decide (340282366920938463463374607431768211456 ≤ v + u)) := by
  unfold wide_Wide_Add.f bits_Add64.f UX.addF
  rw [if_pos (by omega), U.bs, if_pos (by omega), U.bs]
  congr 2
  · omega
  · congr 1
    · omega
    · rw [Bool.eq_iff_iff]; simp only [beq_iff_eq, decide_eq_true_eq]; omega
theorem and_63_i64 {a : Int} (h : -9223372036854775808 ≤ a) (h' : a < 9223372036854775808) : bits .and .i64 a 63 = a % 64 := by
  show IntKind.i64.wrap ((BitVec.ofInt 64 a &&& BitVec.ofInt 64 63).toNat : Int) = _
  have e : (BitVec.ofInt 64 (63 : Int)).toNat = 2 ^ 6 - 1 := by decide
  have e2 : ((BitVec.ofInt 64 a).toNat : Int) = a % 18446744073709551616 := by
    rw [BitVec.toNat_ofInt]
    exact Int.toNat_of_nonneg (by omega)
  rw [BitVec.toNat_and, e, Nat.and_two_pow_sub_one_eq_mod, IntKind.wrap_i64]
  omega
set_option maxHeartbeats 1000000 in
theorem WideLaws : gimballaw02_WideLaws.Pure := by
  intro a b c n wa wb wc wn
  obtain ⟨a0, a1⟩ := U.wf_u64 wa
  obtain ⟨b0, b1⟩ := U.wf_u64 wb
  obtain ⟨c0, c1⟩ := U.wf_u64 wc
  obtain ⟨n0, n1⟩ := U.wf_i64 wn
  obtain ⟨a, rfl⟩ := Int.eq_ofNat_of_zero_le a0
  obtain ⟨b, rfl⟩ := Int.eq_ofNat_of_zero_le b0
  obtain ⟨c, rfl⟩ := Int.eq_ofNat_of_zero_le c0
  suffices q : ∀ k, 100 < k → gimballaw02_WideLaws.f k (a : Int) (b : Int) (c : Int) n = some true from ⟨101, q _ (by omega)⟩
  intro k hk
  obtain ⟨k, rfl⟩ : ∃ m, k = m + 5 := ⟨k - 5, by omega⟩
  have ea : (a : Int) / 2 = ((a / 2 : Nat) : Int) := by omega
  have eb : (b : Int) / 2 = ((b / 2 : Nat) : Int) := by omega
  unfold gimballaw02_WideLaws.f
  rw [ea, eb]
  generalize hx : a / 2 = x
  generalize hy : b / 2 = y
  have xl : x < 9223372036854775808 := by omega
  have yl : y < 9223372036854775808 := by omega
  have m1 := mul_lt_sq (a := x) (b := c) (by omega) (by omega)
  have m2 := mul_lt_sq (a := y) (b := c) (by omega) (by omega)
  have m3 := mul_lt_sq (a := x + y) (b := c) (by omega) (by omega)
  have m4 := mul_lt_sq (a := x) (b := y) (by omega) (by omega)
  have dis : (x + y) * c = x * c + y * c := Nat.add_mul _ _ _
  have ew : IntKind.u64.wrap ((x : Int) + (y : Int)) = ((x + y : Nat) : Int) := by rw [U.wrap_u64_id (by omega) (by omega)]; omega
  have en := and_63_i64 n0 n1
  obtain ⟨s, hs, hs'⟩ : ∃ s : Nat, n % 64 = (s : Int) ∧ s < 64 := ⟨(n % 64).toNat, by omega, by omega⟩
  rw [hs] at en
  have j1 : ∀ f, f = false → gimballaw02_WideLaws.j1 (k + 4) (x : Int) (s : Int) f = some true := by
    intro f hf
    subst hf
    have hz := left_eq x (by omega) (s : Int) (by omega) (by omega)
    rw [Int.toNat_natCast] at hz
    have ez : ((x / 18446744073709551616 : Nat) : Int) = 0 := by omega
    have ez2 : ((x % 18446744073709551616 : Nat) : Int) = (x : Int) := by omega
    rw [ez, ez2] at hz
    have p1 : 2 ^ s ≤ 2 ^ 63 := Nat.pow_le_pow_right (by decide) (by omega)
    have hp := Nat.two_pow_pos s
    have big : x * 2 ^ s < 340282366920938463463374607431768211456 := by
      have : x * 2 ^ s ≤ x * 2 ^ 63 := Nat.mul_le_mul_left _ p1
      omega
    have mm : x * 2 ^ s / 18446744073709551616 % 18446744073709551616 = x * 2 ^ s / 18446744073709551616 := by
      generalize x * 2 ^ s = z at big
      omega
    rw [mm] at hz
    have hr := right_eq (x * 2 ^ s) big (s : Int) (by omega) (by omega)
    rw [Int.toNat_natCast, Nat.mul_div_cancel _ hp, Nat.mul_mod_left] at hr
    rw [gimballaw02_WideLaws.j1, if_neg (by decide), hz, U.bs]
    simp only
    rw [hr, U.bs]
    simp only
    rw [ez, ez2]
    simp
  have j0 : gimballaw02_WideLaws.j0 (k + 5) (x : Int) (y : Int) n false = some true := by
    rw [gimballaw02_WideLaws.j0, if_neg (by decide), wmul_eq x y (by omega) (by omega), en, U.bs]
    simp only
    have hr := right_eq (x * y) m4 (s : Int) (by omega) (by omega)
    rw [Int.toNat_natCast] at hr
    rw [hr, U.bs]
    simp only
    by_cases hl : x * y % 2 ^ s = 0
    · rw [if_neg (by simp [hl])]
      have hle := Nat.div_le_self (x * y) (2 ^ s)
      have hz := left_eq (x * y / 2 ^ s) (by omega) (s : Int) (by omega) (by omega)
      have dm := Nat.div_add_mod (x * y) (2 ^ s)
      rw [Nat.mul_comm, hl, Nat.add_zero] at dm
      rw [Int.toNat_natCast, dm] at hz
      rw [hz, U.bs, U.bs]
      refine j1 _ ?_
      have : x * y / 18446744073709551616 % 18446744073709551616 = x * y / 18446744073709551616 := by omega
      rw [this]
      simp
    · rw [if_pos (by simp [hl])]
      exact j1 false rfl
  rw [head_eq _ (by omega), U.bs, if_pos rfl, wmul_eq x c (by omega) (by omega), wmul_eq y c (by omega) (by omega), ew, wmul_eq (x + y) c (by omega) (by omega)]
  simp only [U.bs]
  rw [wadd_eq (x * c) (y * c) m1 m2, U.bs]
  simp only
  rw [if_neg (by simp; omega), dis, Nat.mod_eq_of_lt (by omega)]
  simp only [beq_self_eq_true, Bool.not_true, Bool.or_self]
  exact j0
end Go.Proofs.Ytjamobbfafjdmaa.Pure
