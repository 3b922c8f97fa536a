/- The law WideShifts of layer 2: any number below 2^128 up and down by any many bits is the reference's; no condition beyond the arguments' own ranges. -/
import Derived.Test.YtjamobbfafjdmaaQWideShiftsx6
import Derived.Test.YtjamobbfafjdmaaU
import Derived.Test.YtjamobbfafjdmaaUB
set_option linter.unusedSimpArgs false
set_option linter.unusedVariables false
set_option exponentiation.threshold 5000
namespace Go.Proofs.Ytjamobbfafjdmaa.Pure
open Go.RowKit Go.Proofs.Ytjamobbfafjdmaa Go.Proofs.Ytjamobbfafjdmaa.QWideShifts Go.Proofs.YtjamobbfafjdmaaW.PrintWords Go.Proofs.YtjamobbfafjdmaaW.PrintLast
theorem mul64_eq (x y : Int) (hx0 : 0 ≤ x) (hx : x < 18446744073709551616) (hy0 : 0 ≤ y) (hy : y < 18446744073709551616) : bits_Mul64.f x y = some (x * y / 18446744073709551616, x * y % 18446744073709551616) := by
  have h := mul64_arith x y hx0 hx hy0 hy
  unfold bits_Mul64.f
  rw [and_low32 x hx0 hx, and_low32 y hy0 hy]
  simp only [U.wrap_u64]
  rw [and_low32 _ (Int.emod_nonneg _ (by decide)) (Int.emod_lt_of_pos _ (by decide)), h]
theorem wmul_eq (a b : Nat) (ha : a < 18446744073709551616) (hb : b < 18446744073709551616) : wide_Mul.f (a : Int) (b : Int) = some (((a * b / 18446744073709551616 : Nat) : Int), ((a * b % 18446744073709551616 : Nat) : Int)) := by
  unfold wide_Mul.f
  rw [mul64_eq _ _ (by omega) (by omega) (by omega) (by omega), Option.bind_some]
  simp
theorem mul_lt_sq {a b : Nat} (ha : a < 18446744073709551616) (hb : b < 18446744073709551616) : a * b < 340282366920938463463374607431768211456 := by
  have := Nat.mul_lt_mul'' ha hb
  omega
theorem wcmp_eq (k : Nat) (v u : Nat) : wide_Wide_Cmp.f (k + 1) ((v / 18446744073709551616 : Nat) : Int) ((v % 18446744073709551616 : Nat) : Int) ((u / 18446744073709551616 : Nat) : Int) ((u % 18446744073709551616 : Nat) : Int) = some (U.cmp3 v u) := by
  unfold wide_Wide_Cmp.f U.cmp3
  simp only [wide_Wide_Cmp.j0]
  by_cases h1 : ((v / 18446744073709551616 : Nat) : Int) < ((u / 18446744073709551616 : Nat) : Int)
  · rw [if_pos h1, if_pos (show (v : Int) < (u : Int) by omega)]; rfl
  · rw [if_neg h1]
    by_cases h2 : ((v / 18446744073709551616 : Nat) : Int) = ((u / 18446744073709551616 : Nat) : Int)
    · rw [if_pos h2]
      by_cases h3 : ((v % 18446744073709551616 : Nat) : Int) < ((u % 18446744073709551616 : Nat) : Int)
      · rw [if_pos (by simpa using h3), if_pos (by omega)]
      · rw [if_neg (by simpa using h3), h2, beq_self_eq_true, Bool.true_and]
        by_cases h4 : ((v % 18446744073709551616 : Nat) : Int) = ((u % 18446744073709551616 : Nat) : Int)
        · rw [if_pos (by simpa using h4), if_neg (by omega), if_neg (by omega)]
        · rw [if_neg (by simpa using h4), if_neg (by omega), if_pos (by omega)]
    · rw [if_neg h2, if_neg (by decide), beq_eq_false_iff_ne.mpr h2, Bool.false_and, if_neg (by decide), if_neg (by omega), if_pos (by omega)]
theorem sqrt_l0 (A : Nat) (n : Nat) : ∀ (k root : Nat), n ≤ 64 → n + 3 < k → root % 2 ^ n = 0 → root + 2 ^ n ≤ 18446744073709551616 → root * root ≤ A → A < (root + 2 ^ n) * (root + 2 ^ n) →
    ∃ r : Nat, wide_Wide_Sqrt.l0 k (root : Int) ((n : Int) - 1) ((A / 18446744073709551616 : Nat) : Int) ((A % 18446744073709551616 : Nat) : Int) = some ((r : Int), decide (r * r = A)) ∧ r * r ≤ A ∧ A < (r + 1) * (r + 1) ∧ r < 18446744073709551616 := by
  induction n with
  | zero =>
    intro k root _ hk _ hb h1 h2
    obtain ⟨k, rfl⟩ : ∃ m, k = m + 1 := ⟨k - 1, by omega⟩
    refine ⟨root, ?_, h1, by simpa using h2, by omega⟩
    rw [wide_Wide_Sqrt.l0, if_neg (by omega), wmul_eq root root (by omega) (by omega), Option.bind_some]
    congr 2
    rw [Bool.eq_iff_iff]
    simp only [Bool.and_eq_true, beq_iff_eq, decide_eq_true_eq]
    omega
  | succ n ih =>
    intro k root hn hk hm hb h1 h2
    obtain ⟨k, rfl⟩ : ∃ m, k = m + 2 := ⟨k - 2, by omega⟩
    have hp := Nat.two_pow_pos n
    have hps : 2 ^ (n + 1) = 2 * 2 ^ n := by rw [Nat.pow_succ, Nat.mul_comm]
    have hle : 2 ^ n ≤ 2 ^ 63 := Nat.pow_le_pow_right (by decide) (by omega)
    have e : ((n + 1 : Nat) : Int) - 1 = (n : Int) := by omega
    have hw : wrap64 ((n : Int) - 1) = (n : Int) - 1 := U.wrap64_id (by omega) (by omega)
    have es : shl .u64 1 (n : Int) = ((2 ^ n : Nat) : Int) := by
      unfold shl
      rw [Int.toNat_natCast, Nat.min_eq_left (by show n ≤ 64; omega), Int.one_mul]
      have : ((2 : Int) ^ n) = ((2 ^ n : Nat) : Int) := by simp
      rw [this, U.wrap_u64_id (by omega) (by omega)]
    have eo : bits .or .u64 (root : Int) ((2 ^ n : Nat) : Int) = ((root + 2 ^ n : Nat) : Int) := by
      have z : (root : Int) % 2 ^ (n + 1) = 0 := by
        have c : ((2 : Int) ^ (n + 1)) = ((2 ^ (n + 1) : Nat) : Int) := by simp
        rw [c]; omega
      have lt : ((2 ^ n : Nat) : Int) < 2 ^ (n + 1) := by
        have c : ((2 : Int) ^ (n + 1)) = ((2 ^ (n + 1) : Nat) : Int) := by simp
        rw [c]; omega
      rw [U.or_join (n + 1) (by omega) (by omega) z (by omega) (by omega) lt]; omega
    have m0 : root % 2 ^ n = 0 := by
      have := Nat.mod_mod_of_dvd root (Nat.pow_dvd_pow 2 (Nat.le_succ n))
      rw [← this, hm, Nat.zero_mod]
    have m1 : (root + 2 ^ n) % 2 ^ n = 0 := by rw [Nat.add_mod_right, m0]
    rw [wide_Wide_Sqrt.l0, e, if_pos (by omega), if_pos (by omega), es, eo, hw, wmul_eq (root + 2 ^ n) (root + 2 ^ n) (by omega) (by omega)]
    simp only [Option.bind_some]
    rw [wcmp_eq]
    simp only [Option.bind_some]
    have cs := U.cmp3_cases (((root + 2 ^ n) * (root + 2 ^ n) : Nat) : Int) (A : Int)
    by_cases hc : (root + 2 ^ n) * (root + 2 ^ n) ≤ A
    · rw [if_pos (by omega)]
      refine ih (k + 1) (root + 2 ^ n) (by omega) (by omega) m1 (by omega) hc ?_
      have : root + 2 ^ n + 2 ^ n = root + 2 ^ (n + 1) := by omega
      rw [this]; exact h2
    · rw [if_neg (by omega)]
      exact ih (k + 1) root (by omega) (by omega) m0 (by omega) h1 (by omega)
theorem sqrt_eq (A : Nat) (hA : A < 340282366920938463463374607431768211456) (k : Nat) (hk : 70 < k) :
    ∃ r : Nat, wide_Wide_Sqrt.f k ((A / 18446744073709551616 : Nat) : Int) ((A % 18446744073709551616 : Nat) : Int) = some ((r : Int), decide (r * r = A)) ∧ r * r ≤ A ∧ A < (r + 1) * (r + 1) ∧ r < 18446744073709551616 := by
  unfold wide_Wide_Sqrt.f
  exact sqrt_l0 A 64 k 0 (by omega) (by omega) (by decide) (by decide) (by omega) (by omega)
theorem root_unique {A r s : Nat} (h1 : r * r ≤ A) (h2 : A < (r + 1) * (r + 1)) (h3 : s * s ≤ A) (h4 : A < (s + 1) * (s + 1)) : r = s := by
  have a : r < s + 1 := Nat.mul_self_lt_mul_self_iff.mp (Nat.lt_of_le_of_lt h1 h4)
  have b : s < r + 1 := Nat.mul_self_lt_mul_self_iff.mp (Nat.lt_of_le_of_lt h3 h2)
  omega
theorem head_eq (k : Nat) (hk : 70 < k) : gimballaw02_head.f k = some true := by
  unfold gimballaw02_head.f
  have m := wmul_eq 9223372036854775808 4 (by decide) (by decide)
  obtain ⟨r, e, h1, h2, _⟩ := sqrt_eq (9223372036854775808 * 4) (by decide) k hk
  have hr : r = 6074000999 := root_unique h1 h2 (by decide) (by decide)
  rw [show ((9223372036854775808 : Nat) : Int) = 9223372036854775808 from rfl, show ((4 : Nat) : Int) = 4 from rfl] at m
  rw [m]
  simp only [Option.bind_some]
  rw [e]
  simp only [Option.bind_some]
  rw [hr]
  decide
theorem shl_pow (x : Nat) (s : Nat) (hs : s ≤ 64) : shl .u64 (x : Int) (s : Int) = ((x * 2 ^ s % 18446744073709551616 : Nat) : Int) := by
  unfold shl
  rw [Int.toNat_natCast, Nat.min_eq_left (by show s ≤ 64; exact hs), U.wrap_u64]
  have : (x : Int) * 2 ^ s = ((x * 2 ^ s : Nat) : Int) := by simp
  rw [this]; omega
theorem shr_pow (x : Nat) (s : Nat) (hs : s ≤ 64) : shr .u64 (x : Int) (s : Int) = ((x / 2 ^ s : Nat) : Int) := by
  unfold shr
  rw [Int.toNat_natCast, Nat.min_eq_left (by show s ≤ 64; exact hs)]
  simp
theorem or_nat (i x y : Nat) (hi : i ≤ 64) (hx : x % 2 ^ i = 0) (hx1 : x < 18446744073709551616) (hy : y < 2 ^ i) : bits .or .u64 (x : Int) (y : Int) = ((x + y : Nat) : Int) := by
  have z : (x : Int) % 2 ^ i = 0 := by
    have c : ((2 : Int) ^ i) = ((2 ^ i : Nat) : Int) := by simp
    rw [c]; omega
  have lt : (y : Int) < 2 ^ i := by
    have c : ((2 : Int) ^ i) = ((2 ^ i : Nat) : Int) := by simp
    rw [c]; omega
  rw [U.or_join i hi (by omega) z (by omega) (by omega) lt]; omega
theorem pow_split (s : Nat) (hs : s ≤ 64) : 2 ^ s * 2 ^ (64 - s) = 18446744073709551616 := by
  rw [← Nat.pow_add]
  have : s + (64 - s) = 64 := by omega
  rw [this]
theorem p64 : (2 : Nat) ^ 64 = 18446744073709551616 := by decide
theorem p128 : (2 : Nat) ^ 128 = 18446744073709551616 * 18446744073709551616 := by decide
theorem mod_split (x P Q : Nat) (hPQ : P * Q = 18446744073709551616) : x * Q % 18446744073709551616 = x % P * Q := by rw [← hPQ, Nat.mul_mod_mul_right]
theorem ne_pair (a b c d : Int) : (!(a == c) || !(b == d)) = !(decide (a = c ∧ b = d)) := by
  by_cases h1 : a = c
  · by_cases h2 : b = d
    · simp [h1, h2]
    · simp [h1, h2]
  · simp [h1]
/-- The high word of h B + l times 2^s, and the low one. -/
theorem left_arith (h l P Q : Nat) (hPQ : P * Q = 18446744073709551616) (hP : 0 < P) (hQ : 0 < Q) (hl : l < 18446744073709551616) :
    ((h * 18446744073709551616 + l) * P / 18446744073709551616 % 18446744073709551616 = h * P % 18446744073709551616 + l / Q) ∧
    ((h * 18446744073709551616 + l) * P % 18446744073709551616 = l * P % 18446744073709551616) ∧ h * P % 18446744073709551616 % P = 0 ∧ l / Q < P ∧ h * P % 18446744073709551616 + l / Q < 18446744073709551616 := by
  have e1 : (h * 18446744073709551616 + l) * P = h * P * 18446744073709551616 + l * P := by rw [Nat.add_mul]; congr 1; rw [Nat.mul_assoc, Nat.mul_comm 18446744073709551616, ← Nat.mul_assoc]
  have d1 : l = Q * (l / Q) + l % Q := (Nat.div_add_mod l Q).symm
  have m1 : l % Q < Q := Nat.mod_lt _ hQ
  have e2 : l * P = 18446744073709551616 * (l / Q) + l % Q * P := by
    conv => lhs; rw [d1]
    rw [Nat.add_mul, ← hPQ, Nat.mul_comm Q, Nat.mul_assoc, Nat.mul_comm (l / Q), Nat.mul_comm Q P]
  have b2 : l % Q * P < 18446744073709551616 := by
    rw [← hPQ, Nat.mul_comm P Q]; exact Nat.mul_lt_mul_of_pos_right m1 hP
  have e3 : l / Q < P := by
    rw [Nat.div_lt_iff_lt_mul hQ]; omega
  have d2 : h * P % 18446744073709551616 = h % Q * P := by
    conv => lhs; rw [← hPQ, Nat.mul_comm h P, Nat.mul_mod_mul_left, Nat.mul_comm]
  have m2 : h % Q < Q := Nat.mod_lt _ hQ
  have b3 : h % Q * P + P ≤ 18446744073709551616 := by
    have : (h % Q + 1) * P ≤ Q * P := Nat.mul_le_mul_right P m2
    rw [Nat.add_mul, Nat.one_mul, Nat.mul_comm Q P, hPQ] at this
    exact this
  refine ⟨?_, ?_, ?_, e3, by omega⟩
  · rw [e1, e2]; omega
  · rw [e1]; omega
  · rw [d2, Nat.mul_mod_left]
theorem left_eq (v : Nat) (hv : v < 340282366920938463463374607431768211456) (n : Int) (hn : -9223372036854775808 ≤ n) (hn' : n < 9223372036854775808) :
    wide_Wide_Left.f ((v / 18446744073709551616 : Nat) : Int) ((v % 18446744073709551616 : Nat) : Int) n = some (((v * 2 ^ n.toNat / 18446744073709551616 % 18446744073709551616 : Nat) : Int), ((v * 2 ^ n.toNat % 18446744073709551616 : Nat) : Int)) := by
  unfold wide_Wide_Left.f
  by_cases h0 : n ≤ 0
  · have : n.toNat = 0 := by omega
    rw [if_pos h0, this, Nat.pow_zero, Nat.mul_one]
    congr 2; omega
  · rw [if_neg h0]
    obtain ⟨s, rfl⟩ := Int.eq_ofNat_of_zero_le (by omega : 0 ≤ n)
    rw [Int.toNat_natCast]
    by_cases h1 : (s : Int) ≥ 128
    · rw [if_pos h1]
      obtain ⟨t, rfl⟩ : ∃ t, s = t + 128 := ⟨s - 128, by omega⟩
      have e : v * 2 ^ (t + 128) = v * 2 ^ t * 18446744073709551616 * 18446744073709551616 := by
        rw [Nat.pow_add, p128, ← Nat.mul_assoc, ← Nat.mul_assoc]
      rw [e]
      generalize v * 2 ^ t = z
      have z1 : z * 18446744073709551616 * 18446744073709551616 / 18446744073709551616 % 18446744073709551616 = 0 := by omega
      have z2 : z * 18446744073709551616 * 18446744073709551616 % 18446744073709551616 = 0 := by omega
      rw [z1, z2]; rfl
    · rw [if_neg h1]
      by_cases h2 : (s : Int) ≥ 64
      · obtain ⟨t, rfl⟩ : ∃ t, s = t + 64 := ⟨s - 64, by omega⟩
        have hw : wrap64 (((t + 64 : Nat) : Int) - 64) = (t : Int) := by rw [U.wrap64_id (by omega) (by omega)]; omega
        rw [if_pos h2, hw, if_pos (by omega), shl_pow _ _ (by omega)]
        have e : v * 2 ^ (t + 64) = v * 2 ^ t * 18446744073709551616 := by
          rw [Nat.pow_add, p64, ← Nat.mul_assoc]
        have e2 : v % 18446744073709551616 * 2 ^ t % 18446744073709551616 = v * 2 ^ t % 18446744073709551616 := Nat.mod_mul_mod _ _ _
        rw [e, e2]
        generalize v * 2 ^ t = z
        have z1 : z * 18446744073709551616 / 18446744073709551616 % 18446744073709551616 = z % 18446744073709551616 := by omega
        have z2 : z * 18446744073709551616 % 18446744073709551616 = 0 := by omega
        rw [z1, z2]; rfl
      · have hw : wrap64 (64 - (s : Int)) = ((64 - s : Nat) : Int) := by rw [U.wrap64_id (by omega) (by omega)]; omega
        obtain ⟨a1, a2, a3, a4, a5⟩ := left_arith (v / 18446744073709551616) (v % 18446744073709551616) (2 ^ s) (2 ^ (64 - s)) (pow_split s (by omega)) (Nat.two_pow_pos _) (Nat.two_pow_pos _) (by omega)
        rw [if_neg h2, if_pos (by omega), hw, if_pos (by omega), shl_pow _ _ (by omega), shl_pow _ _ (by omega), shr_pow _ _ (by omega),
          or_nat s _ _ (by omega) a3 (by omega) a4]
        have ev : v / 18446744073709551616 * 18446744073709551616 + v % 18446744073709551616 = v := by omega
        rw [ev] at a1 a2
        rw [a1, a2]
theorem wzero_eq (v : Nat) (hv : v < 340282366920938463463374607431768211456) : wide_Wide_Zero.f ((v / 18446744073709551616 : Nat) : Int) ((v % 18446744073709551616 : Nat) : Int) = some (decide (v = 0)) := by
  unfold wide_Wide_Zero.f
  rw [u64_or_nat _ _ (by omega) (by omega)]
  congr 1
  rw [Bool.eq_iff_iff]
  simp only [beq_iff_eq, decide_eq_true_eq]
  constructor
  · intro h
    have h1 : v / 18446744073709551616 ||| v % 18446744073709551616 = 0 := by omega
    have := Nat.or_eq_zero_iff.mp h1
    omega
  · rintro rfl; decide
theorem right_eq (v : Nat) (hv : v < 340282366920938463463374607431768211456) (n : Int) (hn : -9223372036854775808 ≤ n) (hn' : n < 9223372036854775808) :
    wide_Wide_Right.f ((v / 18446744073709551616 : Nat) : Int) ((v % 18446744073709551616 : Nat) : Int) n = some (((v / 2 ^ n.toNat / 18446744073709551616 : Nat) : Int), ((v / 2 ^ n.toNat % 18446744073709551616 : Nat) : Int), decide (v % 2 ^ n.toNat ≠ 0)) := by
  unfold wide_Wide_Right.f
  by_cases h0 : n ≤ 0
  · have : n.toNat = 0 := by omega
    rw [if_pos h0, this, Nat.pow_zero, Nat.div_one, Nat.mod_one]
    simp
  · rw [if_neg h0]
    obtain ⟨s, rfl⟩ := Int.eq_ofNat_of_zero_le (by omega : 0 ≤ n)
    have hz := left_eq 0 (by decide) (s : Int) hn hn'
    rw [Int.toNat_natCast] at hz ⊢
    have hp := Nat.two_pow_pos s
    by_cases h1 : (s : Int) ≥ 128
    · have big : v < 2 ^ s := Nat.lt_of_lt_of_le hv (by
        have : 2 ^ 128 ≤ 2 ^ s := Nat.pow_le_pow_right (by decide) (by omega)
        exact this)
      rw [Nat.zero_div, Nat.zero_mod, Nat.zero_mul, Nat.zero_div, Nat.zero_mod, Int.natCast_zero] at hz
      rw [if_pos h1, hz, U.bs, Nat.div_eq_of_lt big, Nat.mod_eq_of_lt big, wzero_eq v hv, U.bs]
      by_cases hv0 : v = 0
      · subst hv0; decide
      · have : (!((0 : Int) == ((v / 18446744073709551616 : Nat) : Int)) || !((0 : Int) == ((v % 18446744073709551616 : Nat) : Int))) = true := by
          simp; omega
        rw [if_pos this]
        simp [hv0]
    · have q : v / 2 ^ s * 2 ^ s ≤ v := Nat.div_mul_le_self v (2 ^ s)
      have dm := Nat.div_add_mod v (2 ^ s)
      rw [Nat.mul_comm] at dm
      have hvs : v / 2 ^ s ≤ v := Nat.div_le_self v _
      have l := left_eq (v / 2 ^ s) (by omega) (s : Int) hn hn'
      rw [Int.toNat_natCast] at l
      have key : ∀ x y : Int, x = ((v / 2 ^ s / 18446744073709551616 : Nat) : Int) → y = ((v / 2 ^ s % 18446744073709551616 : Nat) : Int) →
          ((wide_Wide_Left.f x y (s : Int)).bind fun bt => if (!(bt.1 == ((v / 18446744073709551616 : Nat) : Int)) || !(bt.2 == ((v % 18446744073709551616 : Nat) : Int))) = true then some (x, y, true) else some (x, y, false)) = some (((v / 2 ^ s / 18446744073709551616 : Nat) : Int), ((v / 2 ^ s % 18446744073709551616 : Nat) : Int), decide (v % 2 ^ s ≠ 0)) := by
        rintro x y rfl rfl
        rw [l, U.bs]
        simp only
        rw [ne_pair]
        by_cases hr : v % 2 ^ s = 0
        · have : v / 2 ^ s * 2 ^ s = v := by omega
          have c : ((v / 2 ^ s * 2 ^ s / 18446744073709551616 % 18446744073709551616 : Nat) : Int) = ((v / 18446744073709551616 : Nat) : Int) ∧ ((v / 2 ^ s * 2 ^ s % 18446744073709551616 : Nat) : Int) = ((v % 18446744073709551616 : Nat) : Int) := by rw [this]; omega
          rw [decide_eq_true c, hr]; rfl
        · have c : ¬ (((v / 2 ^ s * 2 ^ s / 18446744073709551616 % 18446744073709551616 : Nat) : Int) = ((v / 18446744073709551616 : Nat) : Int) ∧ ((v / 2 ^ s * 2 ^ s % 18446744073709551616 : Nat) : Int) = ((v % 18446744073709551616 : Nat) : Int)) := by
            generalize v / 2 ^ s * 2 ^ s = z at *
            generalize v % 2 ^ s = y at *
            omega
          rw [decide_eq_false c, decide_eq_true (show v % 2 ^ s ≠ 0 from hr)]; rfl
      rw [if_neg h1]
      by_cases h2 : (s : Int) ≥ 64
      · obtain ⟨t, rfl⟩ : ∃ t, s = t + 64 := ⟨s - 64, by omega⟩
        have hw : wrap64 (((t + 64 : Nat) : Int) - 64) = (t : Int) := by rw [U.wrap64_id (by omega) (by omega)]; omega
        have e : v / 2 ^ (t + 64) = v / 18446744073709551616 / 2 ^ t := by
          rw [Nat.pow_add, p64, Nat.mul_comm, ← Nat.div_div_eq_div_mul]
        have lt : v / 18446744073709551616 / 2 ^ t < 18446744073709551616 := by
          have := Nat.div_le_self (v / 18446744073709551616) (2 ^ t); omega
        rw [if_pos h2, hw, if_pos (by omega), shr_pow _ _ (by omega)]
        refine key 0 _ ?_ ?_
        · rw [e]; generalize v / 18446744073709551616 / 2 ^ t = z at lt; omega
        · rw [e]; generalize v / 18446744073709551616 / 2 ^ t = z at lt; omega
      · have hw : wrap64 (64 - (s : Int)) = ((64 - s : Nat) : Int) := by rw [U.wrap64_id (by omega) (by omega)]; omega
        have hPQ := pow_split s (by omega)
        have hQ := Nat.two_pow_pos (64 - s)
        rw [if_neg h2, if_pos (by omega), hw, if_pos (by omega), shl_pow _ _ (by omega), shr_pow _ _ (by omega), shr_pow _ _ (by omega)]
        have d2 := mod_split (v / 18446744073709551616) (2 ^ s) (2 ^ (64 - s)) hPQ
        have lq : v % 18446744073709551616 / 2 ^ s < 2 ^ (64 - s) := by
          rw [Nat.div_lt_iff_lt_mul hp, Nat.mul_comm, hPQ]; exact Nat.mod_lt _ (by decide)
        have ms : v / 18446744073709551616 % 2 ^ s < 2 ^ s := Nat.mod_lt _ hp
        have b3 : v / 18446744073709551616 % 2 ^ s * 2 ^ (64 - s) + 2 ^ (64 - s) ≤ 18446744073709551616 := by
          have : (v / 18446744073709551616 % 2 ^ s + 1) * 2 ^ (64 - s) ≤ 2 ^ s * 2 ^ (64 - s) := Nat.mul_le_mul_right _ ms
          rw [Nat.add_mul, Nat.one_mul, hPQ] at this
          exact this
        rw [d2, or_nat (64 - s) _ _ (by omega) (Nat.mul_mod_left _ _) (by omega) lq]
        have ev : v = v / 18446744073709551616 * 18446744073709551616 + v % 18446744073709551616 := by omega
        have e : v / 2 ^ s = v / 18446744073709551616 / 2 ^ s * 18446744073709551616 + (v / 18446744073709551616 % 2 ^ s * 2 ^ (64 - s) + v % 18446744073709551616 / 2 ^ s) := by
          have dh := Nat.div_add_mod (v / 18446744073709551616) (2 ^ s)
          have e1 : v = 2 ^ s * (v / 18446744073709551616 / 2 ^ s * 18446744073709551616 + v / 18446744073709551616 % 2 ^ s * 2 ^ (64 - s)) + v % 18446744073709551616 := by
            conv => lhs; rw [ev]
            congr 1
            conv => lhs; rw [← dh]
            rw [Nat.add_mul, Nat.mul_add, Nat.mul_assoc]
            congr 1
            rw [← Nat.mul_assoc, Nat.mul_comm (2 ^ s) (v / 18446744073709551616 % 2 ^ s), Nat.mul_assoc, hPQ]
          conv => lhs; rw [e1]
          rw [Nat.mul_add_div hp]
          omega
        have b4 : v / 18446744073709551616 % 2 ^ s * 2 ^ (64 - s) + v % 18446744073709551616 / 2 ^ s < 18446744073709551616 := by omega
        refine key _ _ ?_ ?_
        · rw [e]
          generalize v / 18446744073709551616 % 2 ^ s * 2 ^ (64 - s) + v % 18446744073709551616 / 2 ^ s = y at b4
          generalize v / 18446744073709551616 / 2 ^ s = x
          omega
        · rw [e]
          generalize v / 18446744073709551616 % 2 ^ s * 2 ^ (64 - s) + v % 18446744073709551616 / 2 ^ s = y at b4
          generalize v / 18446744073709551616 / 2 ^ s = x
          omega
theorem rd_nat (l : List Int) (n : Nat) : rd l (n : Int) = l.getD n 0 := by unfold rd; rw [Int.toNat_natCast]
theorem trim_l0 (l : List Int) (hb : U.isb l) (hn : l.length < 17592186044416) (n : Nat) : ∀ k, n ≤ l.length → n < k → gimbalref02_Trim.l0 k l (n : Int) = some (U.binl (U.val (l.take n))) := by
  induction n with
  | zero =>
    intro k _ hk
    obtain ⟨k, rfl⟩ : ∃ m, k = m + 1 := ⟨k - 1, by omega⟩
    rw [gimbalref02_Trim.l0, if_neg (by omega)]
    simp [U.val, U.binl_zero]
  | succ n ih =>
    intro k h hk
    obtain ⟨k, rfl⟩ : ∃ m, k = m + 1 := ⟨k - 1, by omega⟩
    have hw : wrap64 (((n + 1 : Nat) : Int) - 1) = (n : Int) := by rw [U.wrap64_id (by omega) (by omega)]; omega
    rw [gimbalref02_Trim.l0, if_pos (by omega), hw, if_pos (by omega), if_pos (by omega), rd_nat]
    rcases U.getD_isb hb n with h0 | h1
    · rw [if_pos h0, ih k (by omega) (by omega), U.val_take_succ (by omega), h0]
      simp
    · rw [if_neg (by rw [h1]; decide)]
      have e : (((n + 1 : Nat) : Int)).toNat = n + 1 := Int.toNat_natCast _
      have hlen : (l.take (n + 1)).length = n + 1 := by rw [List.length_take]; omega
      rw [Option.bind_some, if_pos (by omega), if_pos (by omega), e, if_pos (by simp [hlen]; omega), List.nil_append]
      congr 1
      refine (U.binl_val (U.isb_take hb _) (Or.inr ?_)).1.symm
      rw [List.take_succ_eq_append_getElem (by omega), List.getLast?_append]
      rw [List.getD_eq_getElem?_getD, List.getElem?_eq_getElem (by omega), Option.getD_some] at h1
      simp [h1]
theorem trim_eq (l : List Int) (hb : U.isb l) (hn : l.length < 17592186044416) (k : Nat) (hk : l.length < k) : gimbalref02_Trim.f k l = some (U.binl (U.val l)) := by
  unfold gimbalref02_Trim.f
  rw [trim_l0 l hb hn l.length k (Nat.le_refl _) hk, List.take_length]
theorem of_l0 (n : Nat) : ∀ (k : Nat) (acc : List Int), n < 18446744073709551616 → U.blen n < k → acc.length + U.blen n < 17592186044416 → gimbalref02_Of.l0 k (n : Int) acc = some (acc ++ U.binl n) := by
  induction n using Nat.strongRecOn with
  | ind n ih =>
    intro k acc hn hk hl
    obtain ⟨k, rfl⟩ : ∃ m, k = m + 1 := ⟨k - 1, by omega⟩
    by_cases h : n = 0
    · subst h
      rw [gimbalref02_Of.l0, if_neg (by decide), U.binl_zero, List.append_nil]
    · have hb := U.blen_pos h
      have e1 : IntKind.u64.wrap (Int.tdiv (n : Int) 2) = ((n / 2 : Nat) : Int) := by
        rw [U.tdiv_nn (by omega), U.wrap_u64_id (by omega) (by omega)]; omega
      have e2 : wrap64 (Int.tmod (n : Int) 2) = ((n % 2 : Nat) : Int) := by
        rw [U.tmod_nn (by omega), U.wrap64_id (by omega) (by omega)]; omega
      rw [gimbalref02_Of.l0, if_pos (by omega), if_pos (by omega), e1, e2, ih (n / 2) (by omega) k _ (by omega) (by omega) (by simp; omega), U.binl_pos h]
      simp
theorem of_eq (n : Nat) (hn : n < 18446744073709551616) (k : Nat) (hk : 65 < k) : gimbalref02_Of.f k (n : Int) = some (U.binl n) := by
  have := (U.blen_le 64 n).2 hn
  unfold gimbalref02_Of.f
  rw [of_l0 n k [] hn (by omega) (by simp; omega), List.nil_append]
theorem up_l0 (l : List Int) (hb : U.isb l) (n : Nat) (hs : n + l.length < 17592186044416) (d : Nat) : ∀ (k i : Nat), i + d = n → d + n + l.length + 1 < k →
    gimbalref02_Up.l0 k l (n : Int) (List.replicate i 0) (i : Int) = some (U.binl (U.val l * 2 ^ n)) := by
  induction d with
  | zero =>
    intro k i hi hk
    obtain ⟨k, rfl⟩ : ∃ m, k = m + 1 := ⟨k - 1, by omega⟩
    have e : i = n := by omega
    subst e
    rw [gimbalref02_Up.l0, if_neg (by omega), if_pos (by rw [List.length_replicate]; omega), trim_eq _ (U.isb_append (U.isb_replicate _) hb) (by simp; omega) k (by simp; omega), U.val_append, U.val_replicate, List.length_replicate, Option.bind_some, Nat.zero_add, Nat.mul_comm]
  | succ d ih =>
    intro k i hi hk
    obtain ⟨k, rfl⟩ : ∃ m, k = m + 1 := ⟨k - 1, by omega⟩
    have hw : wrap64 ((i : Int) + 1) = ((i + 1 : Nat) : Int) := by rw [U.wrap64_id (by omega) (by omega)]; omega
    have hr : List.replicate i (0 : Int) ++ [0] = List.replicate (i + 1) 0 := by rw [List.replicate_succ']
    rw [gimbalref02_Up.l0, if_pos (by omega), if_pos (by rw [List.length_replicate]; omega), hr, hw]
    exact ih k (i + 1) (by omega) (by omega)
theorem up_eq (l : List Int) (hb : U.isb l) (n : Nat) (hs : n + l.length < 17592186044416) (k : Nat) (hk : 2 * n + l.length + 1 < k) : gimbalref02_Up.f k l (n : Int) = some (U.binl (U.val l * 2 ^ n)) := by
  unfold gimbalref02_Up.f
  exact up_l0 l hb n hs n k 0 (by omega) (by omega)
theorem up_binl (a n : Nat) (hs : n + U.blen a < 17592186044416) (k : Nat) (hk : 2 * n + U.blen a + 1 < k) : gimbalref02_Up.f k (U.binl a) (n : Int) = some (U.binl (a * 2 ^ n)) := by
  rw [up_eq _ (U.isb_binl a) n hs k hk, U.val_binl]
theorem val_drop (l : List Int) (i : Nat) : U.val (l.drop i) = (l.getD i 0).toNat + 2 * U.val (l.drop (i + 1)) := by
  by_cases h : i < l.length
  · rw [List.drop_eq_getElem_cons h, List.getD_eq_getElem?_getD, List.getElem?_eq_getElem h, Option.getD_some]; rfl
  · rw [List.drop_eq_nil_of_le (by omega), List.drop_eq_nil_of_le (by omega), List.getD_eq_getElem?_getD, List.getElem?_eq_none (by omega)]; rfl
theorem val_snoc (out : List Int) (x : Int) : U.val (out ++ [x]) = U.val out + 2 ^ out.length * x.toNat := by
  rw [U.val_append]; show _ + _ * (x.toNat + 2 * 0) = _; rw [Nat.mul_zero, Nat.add_zero]
theorem add_l0 (l m : List Int) (hl : U.isb l) (hm : U.isb m) (e : Nat) : ∀ (k i : Nat) (out : List Int) (c : Nat), c ≤ 1 → l.length ≤ i + e → m.length ≤ i + e → U.isb out → out.length = i → i + e < 17592186044000 →
    2 * e + 6 + (i + e + 2) < k + (1 - c) * 0 → gimbalref02_Add.l0 k l m out (c : Int) (i : Int) = some (U.binl (U.val out + 2 ^ i * (c + U.val (l.drop i) + U.val (m.drop i)))) := by
  have stop : ∀ (k i : Nat) (out : List Int), l.length ≤ i → m.length ≤ i → U.isb out → out.length = i → i < 17592186044400 → i + 3 < k →
      gimbalref02_Add.l0 k l m out 0 (i : Int) = some (U.binl (U.val out)) := by
    intro k i out h1 h2 hb ho hs hk
    obtain ⟨k, rfl⟩ : ∃ m, k = m + 2 := ⟨k - 2, by omega⟩
    rw [gimbalref02_Add.l0, if_neg (by omega), if_neg (by omega)]
    rw [gimbalref02_Add.j1, if_neg (by decide), trim_eq out hb (by omega) k (by omega), Option.bind_some]
  have step : ∀ (k i : Nat) (out : List Int) (c : Nat), c ≤ 1 → out.length = i → i < 17592186044400 → (i < l.length ∨ i < m.length ∨ c = 1) →
      gimbalref02_Add.l0 (k + 2) l m out (c : Int) (i : Int) = gimbalref02_Add.l0 k l m (out ++ [(((c + (l.getD i 0).toNat + (m.getD i 0).toNat) % 2 : Nat) : Int)]) (((c + (l.getD i 0).toNat + (m.getD i 0).toNat) / 2 : Nat) : Int) ((i + 1 : Nat) : Int) := by
    intro k i out c hc ho hs hor
    have g1 := U.getD_isb hl i
    have g2 := U.getD_isb hm i
    have j : gimbalref02_Add.j1 (k + 1) l m out (c : Int) (i : Int) true = gimbalref02_Add.l0 k l m (out ++ [(((c + (l.getD i 0).toNat + (m.getD i 0).toNat) % 2 : Nat) : Int)]) (((c + (l.getD i 0).toNat + (m.getD i 0).toNat) / 2 : Nat) : Int) ((i + 1 : Nat) : Int) := by
      have hi : wrap64 ((i : Int) + 1) = ((i + 1 : Nat) : Int) := by rw [U.wrap64_id (by omega) (by omega)]; omega
      rw [gimbalref02_Add.j1, if_pos rfl, rd_nat, rd_nat, hi]
      have z1 : ¬ (i : Int) < (l.length : Int) → l.getD i 0 = 0 := fun h => by rw [List.getD_eq_getElem?_getD, List.getElem?_eq_none (by omega)]; rfl
      have z2 : ¬ (i : Int) < (m.length : Int) → m.getD i 0 = 0 := fun h => by rw [List.getD_eq_getElem?_getD, List.getElem?_eq_none (by omega)]; rfl
      have fin : ∀ n : Int, n = (c : Int) + l.getD i 0 + m.getD i 0 → (Int.tmod n 2 = (((c + (l.getD i 0).toNat + (m.getD i 0).toNat) % 2 : Nat) : Int)) ∧ wrap64 (Int.tdiv n 2) = (((c + (l.getD i 0).toNat + (m.getD i 0).toNat) / 2 : Nat) : Int) := by
        intro n hn
        rw [U.tmod_nn (by omega), U.tdiv_nn (by omega), U.wrap64_id (by omega) (by omega)]
        omega
      by_cases c1 : (i : Int) < (l.length : Int)
      · rw [if_pos c1, if_pos (by omega)]
        have w1 : wrap64 ((c : Int) + l.getD i 0) = (c : Int) + l.getD i 0 := U.wrap64_id (by omega) (by omega)
        by_cases c2 : (i : Int) < (m.length : Int)
        · have w2 : wrap64 (wrap64 ((c : Int) + l.getD i 0) + m.getD i 0) = (c : Int) + l.getD i 0 + m.getD i 0 := by rw [w1]; exact U.wrap64_id (by omega) (by omega)
          obtain ⟨f1, f2⟩ := fin _ rfl
          rw [if_pos c2, if_pos (by omega), w2, f1, f2]
        · have y := z2 c2
          obtain ⟨f1, f2⟩ := fin ((c : Int) + l.getD i 0) (by omega)
          rw [if_neg c2, if_pos (by omega), w1, f1, f2]
      · have x := z1 c1
        rw [if_neg c1]
        by_cases c2 : (i : Int) < (m.length : Int)
        · have w1 : wrap64 ((c : Int) + m.getD i 0) = (c : Int) + m.getD i 0 := U.wrap64_id (by omega) (by omega)
          obtain ⟨f1, f2⟩ := fin ((c : Int) + m.getD i 0) (by omega)
          rw [if_pos c2, if_pos (by omega), if_pos (by omega), w1, f1, f2]
        · have y := z2 c2
          obtain ⟨f1, f2⟩ := fin (c : Int) (by omega)
          rw [if_neg c2, if_pos (by omega), f1, f2]
    rw [gimbalref02_Add.l0]
    by_cases c1 : (i : Int) < (l.length : Int)
    · rw [if_pos c1, j]
    · rw [if_neg c1]
      by_cases c2 : (i : Int) < (m.length : Int)
      · rw [if_pos c2, j]
      · have : decide ((c : Int) > 0) = true := by simp; omega
        rw [if_neg c2, this, j]
  have value : ∀ (i : Nat) (out : List Int) (c : Nat), c ≤ 1 → out.length = i →
      U.val (out ++ [(((c + (l.getD i 0).toNat + (m.getD i 0).toNat) % 2 : Nat) : Int)]) + 2 ^ (i + 1) * ((c + (l.getD i 0).toNat + (m.getD i 0).toNat) / 2 + U.val (l.drop (i + 1)) + U.val (m.drop (i + 1)))
        = U.val out + 2 ^ i * (c + U.val (l.drop i) + U.val (m.drop i)) := by
    intro i out c hc ho
    rw [val_snoc, ho, val_drop l i, val_drop m i, Int.toNat_natCast, Nat.pow_succ, Nat.mul_assoc, Nat.add_assoc, ← Nat.mul_add]
    congr 2
    omega
  have bit : ∀ (i : Nat) (out : List Int) (n : Nat), U.isb out → U.isb (out ++ [((n % 2 : Nat) : Int)]) := fun i out n hb => U.isb_append hb (U.isb_cons (by omega) U.isb_nil)
  induction e with
  | zero =>
    intro k i out c hc h1 h2 hb ho hs hk
    have d1 : U.val (l.drop i) = 0 := by rw [List.drop_eq_nil_of_le (by omega)]; rfl
    have d2 : U.val (m.drop i) = 0 := by rw [List.drop_eq_nil_of_le (by omega)]; rfl
    by_cases c0 : c = 0
    · subst c0
      have := stop k i out (by omega) (by omega) hb ho (by omega) (by omega)
      rw [show ((0 : Nat) : Int) = 0 from rfl, this, d1, d2]
      simp
    · have c1 : c = 1 := by omega
      obtain ⟨k, rfl⟩ : ∃ m, k = m + 2 := ⟨k - 2, by omega⟩
      rw [step k i out c hc ho (by omega) (Or.inr (Or.inr c1))]
      have v := value i out c hc ho
      have d3 : U.val (l.drop (i + 1)) = 0 := by rw [List.drop_eq_nil_of_le (by omega)]; rfl
      have d4 : U.val (m.drop (i + 1)) = 0 := by rw [List.drop_eq_nil_of_le (by omega)]; rfl
      have z1 : l.getD i 0 = 0 := by rw [List.getD_eq_getElem?_getD, List.getElem?_eq_none (by omega)]; rfl
      have z2 : m.getD i 0 = 0 := by rw [List.getD_eq_getElem?_getD, List.getElem?_eq_none (by omega)]; rfl
      have q : (c + (l.getD i 0).toNat + (m.getD i 0).toNat) / 2 = 0 := by rw [z1, z2, c1]; decide
      rw [q, d3, d4] at v
      rw [q, show ((0 : Nat) : Int) = 0 from rfl, stop k (i + 1) _ (by omega) (by omega) (bit i out _ hb) (by simp [ho]) (by omega) (by omega), ← v]
      simp
  | succ e ih =>
    intro k i out c hc h1 h2 hb ho hs hk
    by_cases any : i < l.length ∨ i < m.length ∨ c = 1
    · obtain ⟨k, rfl⟩ : ∃ m, k = m + 2 := ⟨k - 2, by omega⟩
      have g1 := U.getD_isb hl i
      have g2 := U.getD_isb hm i
      rw [step k i out c hc ho (by omega) any]
      rw [ih k (i + 1) _ _ (by omega) (by omega) (by omega) (bit i out _ hb) (by simp [ho]) (by omega) (by omega), value i out c hc ho]
    · have c0 : c = 0 := by omega
      subst c0
      have d1 : U.val (l.drop i) = 0 := by rw [List.drop_eq_nil_of_le (by omega)]; rfl
      have d2 : U.val (m.drop i) = 0 := by rw [List.drop_eq_nil_of_le (by omega)]; rfl
      have := stop k i out (by omega) (by omega) hb ho (by omega) (by omega)
      rw [show ((0 : Nat) : Int) = 0 from rfl, this, d1, d2]
      simp
theorem add_eq (l m : List Int) (hl : U.isb l) (hm : U.isb m) (n : Nat) (h1 : l.length ≤ n) (h2 : m.length ≤ n) (hn : n < 17592186044000) (k : Nat) (hk : 3 * n + 8 < k) : gimbalref02_Add.f k l m = some (U.binl (U.val l + U.val m)) := by
  unfold gimbalref02_Add.f
  have := add_l0 l m hl hm n k 0 [] 0 (by omega) (by omega) (by omega) U.isb_nil rfl (by omega) (by omega)
  rw [show ((0 : Nat) : Int) = 0 from rfl] at this
  rw [this]
  simp [U.val]
theorem add_binl (a b n : Nat) (h1 : U.blen a ≤ n) (h2 : U.blen b ≤ n) (hn : n < 17592186044000) (k : Nat) (hk : 3 * n + 8 < k) : gimbalref02_Add.f k (U.binl a) (U.binl b) = some (U.binl (a + b)) := by
  rw [add_eq _ _ (U.isb_binl a) (U.isb_binl b) n h1 h2 hn k hk, U.val_binl, U.val_binl]
theorem num_l0 (l : List Int) (hl : U.isb l) (n : Nat) : ∀ (k x : Nat), n ≤ l.length → n < k → n < 9223372036854775808 → x < 18446744073709551616 → gimbalref02_Num.l0 k l (x : Int) ((n : Int) - 1) = some (((x * 2 ^ n + U.val (l.take n)) % 18446744073709551616 : Nat) : Int) := by
  induction n with
  | zero =>
    intro k x _ hk _ hx
    obtain ⟨k, rfl⟩ : ∃ m, k = m + 1 := ⟨k - 1, by omega⟩
    rw [gimbalref02_Num.l0, if_neg (by omega)]
    simp [U.val]; omega
  | succ n ih =>
    intro k x h hk hb hx
    obtain ⟨k, rfl⟩ : ∃ m, k = m + 1 := ⟨k - 1, by omega⟩
    have g := U.getD_isb hl n
    have e : ((n + 1 : Nat) : Int) - 1 = (n : Int) := by omega
    have hw : wrap64 ((n : Int) - 1) = (n : Int) - 1 := U.wrap64_id (by omega) (by omega)
    have ex : IntKind.u64.wrap (IntKind.u64.wrap (2 * (x : Int)) + IntKind.u64.wrap (l.getD n 0)) = (((2 * x + (l.getD n 0).toNat) % 18446744073709551616 : Nat) : Int) := by
      rw [U.wrap_u64, U.wrap_u64, U.wrap_u64]; omega
    rw [gimbalref02_Num.l0, e, if_pos (by omega), if_pos (by omega), if_pos (by omega), rd_nat, hw, ex, ih k _ (by omega) (by omega) (by omega) (Nat.mod_lt _ (by decide)), U.val_take_succ (by omega)]
    congr 2
    rw [Nat.add_mod, Nat.mod_mul_mod, ← Nat.add_mod, Nat.add_mul, Nat.pow_succ, Nat.mul_assoc, Nat.mul_comm 2 (x * 2 ^ n), Nat.mul_assoc, Nat.mul_comm (l.getD n 0).toNat]
    congr 1
    rw [Nat.add_assoc, Nat.add_comm (2 ^ n * _)]
theorem num_eq (l : List Int) (hl : U.isb l) (k : Nat) (hk : 65 < k) (hs : l.length < 17592186044416) : gimbalref02_Num.f k l = some ((U.val l % 18446744073709551616 : Nat) : Int) := by
  unfold gimbalref02_Num.f
  have e : (mn (l.length : Int) 64) - 1 = ((min l.length 64 : Nat) : Int) - 1 := by unfold mn; split <;> omega
  rw [e]
  have := num_l0 l hl (min l.length 64) k 0 (Nat.min_le_left _ _) (by omega) (by omega) (by decide)
  rw [show ((0 : Nat) : Int) = 0 from rfl] at this
  rw [this, Nat.zero_mul, Nat.zero_add]
  congr 2
  have t : l.take (min l.length 64) = l.take 64 := by
    by_cases h : l.length ≤ 64
    · rw [Nat.min_eq_left h, List.take_length, List.take_of_length_le h]
    · rw [Nat.min_eq_right (by omega)]
  rw [t]
  have hv := U.val_append (l.take 64) (l.drop 64)
  rw [List.take_append_drop] at hv
  by_cases h : l.length ≤ 64
  · rw [List.take_of_length_le h]
  · have : (l.take 64).length = 64 := by rw [List.length_take]; omega
    rw [this] at hv
    have : 2 ^ 64 = 18446744073709551616 := by decide
    omega
theorem val_take_drop (l : List Int) (n : Nat) (hn : n ≤ l.length) : U.val l = U.val (l.take n) + 2 ^ n * U.val (l.drop n) := by
  have hv := U.val_append (l.take n) (l.drop n)
  rw [List.take_append_drop] at hv
  have : (l.take n).length = n := by rw [List.length_take]; omega
  rw [this] at hv
  exact hv
theorem val_div (l : List Int) (hl : U.isb l) (n : Nat) : U.val l / 2 ^ n = U.val (l.drop n) ∧ U.val l % 2 ^ n = U.val (l.take n) := by
  by_cases hn : n ≤ l.length
  · have h := val_take_drop l n hn
    have hlt := U.val_lt (U.isb_take hl n)
    have : (l.take n).length = n := by rw [List.length_take]; omega
    rw [this] at hlt
    rw [h]
    constructor
    · rw [Nat.add_mul_div_left _ _ (Nat.two_pow_pos n), Nat.div_eq_of_lt hlt, Nat.zero_add]
    · rw [Nat.add_mul_mod_self_left, Nat.mod_eq_of_lt hlt]
  · have hlt := U.val_lt hl
    have hp : 2 ^ l.length ≤ 2 ^ n := Nat.pow_le_pow_right (by decide) (by omega)
    rw [List.take_of_length_le (by omega), List.drop_eq_nil_of_le (by omega), Nat.div_eq_of_lt (by omega), Nat.mod_eq_of_lt (by omega)]
    exact ⟨rfl, rfl⟩
theorem down_l0 (l : List Int) (hl : U.isb l) (n : Nat) (hn : n < 17592186044416) (hs : l.length < 17592186044416) (d : Nat) : ∀ (k i : Nat) (lost : Bool), i ≤ n → i ≤ l.length → (i + d = n ∨ i + d = l.length) → i + d ≤ n → i + d ≤ l.length → d + l.length + 1 < k →
    lost = decide (U.val (l.take i) ≠ 0) → gimbalref02_Down.l0 k l (n : Int) lost (i : Int) = some (U.binl (U.val l / 2 ^ n), decide (U.val l % 2 ^ n ≠ 0)) := by
  have stop : ∀ (k i : Nat) (lost : Bool), (i = n ∨ i = l.length) → i ≤ n → i ≤ l.length → l.length + 1 < k → lost = decide (U.val (l.take i) ≠ 0) →
      gimbalref02_Down.l0 k l (n : Int) lost (i : Int) = some (U.binl (U.val l / 2 ^ n), decide (U.val l % 2 ^ n ≠ 0)) := by
    intro k i lost hi h1 h2 hk hlost
    obtain ⟨k, rfl⟩ : ∃ m, k = m + 1 := ⟨k - 1, by omega⟩
    obtain ⟨v1, v2⟩ := val_div l hl n
    rw [v1, v2]
    have hm : mx (n : Int) 0 = (n : Int) := by unfold mx; rw [if_neg (by omega)]
    have tk : U.val (l.take i) = U.val (l.take n) := by
      rcases hi with rfl | rfl
      · rfl
      · rw [List.take_length, List.take_of_length_le h1]
    have fin : (if (n : Int) ≥ (l.length : Int) then some (([] : List Int), lost) else if 0 ≤ mx (n : Int) 0 then if mx (n : Int) 0 ≤ (l.length : Int) then (gimbalref02_Trim.f k (l.drop (mx (n : Int) 0).toNat)).bind fun t => some (t, lost) else none else none) = some (U.binl (U.val (l.drop n)), decide (U.val (l.take n) ≠ 0)) := by
      rw [hlost, tk, hm, Int.toNat_natCast]
      by_cases hge : (n : Int) ≥ (l.length : Int)
      · rw [if_pos hge, List.drop_eq_nil_of_le (by omega)]
        show some (([] : List Int), _) = some (U.binl 0, _)
        rw [U.binl_zero]
      · rw [if_neg hge, if_pos (by omega), if_pos (by omega), trim_eq _ (U.isb_drop hl n) (by rw [List.length_drop]; omega) k (by rw [List.length_drop]; omega), Option.bind_some]
    rw [gimbalref02_Down.l0]
    by_cases c1 : (i : Int) < (n : Int)
    · rw [if_pos c1, if_neg (by omega)]
      exact fin
    · rw [if_neg c1]
      exact fin
  induction d with
  | zero =>
    intro k i lost h1 h2 h3 h4 h5 hk hlost
    exact stop k i lost (by omega) h1 h2 (by omega) hlost
  | succ d ih =>
    intro k i lost h1 h2 h3 h4 h5 hk hlost
    obtain ⟨k, rfl⟩ : ∃ m, k = m + 1 := ⟨k - 1, by omega⟩
    have hw : wrap64 ((i : Int) + 1) = ((i + 1 : Nat) : Int) := by rw [U.wrap64_id (by omega) (by omega)]; omega
    have g := U.getD_isb hl i
    have vt := U.val_take_succ (l := l) (n := i) (by omega)
    have hp := Nat.two_pow_pos i
    rw [gimbalref02_Down.l0, if_pos (by omega), if_pos (by omega), hw, rd_nat]
    cases lost with
    | true =>
      rw [if_pos rfl]
      refine ih k (i + 1) true (by omega) (by omega) (by omega) (by omega) (by omega) (by omega) ?_
      have : U.val (l.take i) ≠ 0 := of_decide_eq_true hlost.symm
      symm; apply decide_eq_true; omega
    | false =>
      rw [if_neg (by decide), if_pos (by omega)]
      refine ih k (i + 1) _ (by omega) (by omega) (by omega) (by omega) (by omega) (by omega) ?_
      have h0 : ¬ U.val (l.take i) ≠ 0 := of_decide_eq_false hlost.symm
      rcases g with g | g
      · rw [g] at vt ⊢
        have : U.val (l.take (i + 1)) = 0 := by rw [vt]; simp; omega
        simp [this]
      · rw [g] at vt ⊢
        have : U.val (l.take (i + 1)) ≠ 0 := by rw [vt]; simp
        simp [this]
theorem down_eq (l : List Int) (hl : U.isb l) (n : Nat) (hn : n < 17592186044416) (hs : l.length < 17592186044416) (k : Nat) (hk : 2 * l.length + 1 < k) : gimbalref02_Down.f k l (n : Int) = some (U.binl (U.val l / 2 ^ n), decide (U.val l % 2 ^ n ≠ 0)) := by
  unfold gimbalref02_Down.f
  exact down_l0 l hl n hn hs (min n l.length) k 0 false (by omega) (by omega) (by omega) (by omega) (by omega) (by omega) (by simp [U.val])
theorem back_eq (v : Nat) (k : Nat) (hl : U.blen v < 1000000) (hk : 2000100 < k) : gimballaw02_back.f k (U.binl v) = some (((v / 18446744073709551616 % 18446744073709551616 : Nat) : Int), ((v % 18446744073709551616 : Nat) : Int)) := by
  unfold gimballaw02_back.f
  have d := down_eq (U.binl v) (U.isb_binl v) 64 (by decide) (by show U.blen v < _; omega) k (by show 2 * U.blen v + 1 < k; omega)
  rw [U.val_binl] at d
  have p : (2 : Nat) ^ 64 = 18446744073709551616 := by decide
  have le := U.blen_mono (Nat.div_le_self v (2 ^ 64))
  rw [show ((64 : Nat) : Int) = 64 from rfl] at d
  rw [d]
  simp only [Option.bind_some]
  rw [num_eq _ (U.isb_binl _) k (by omega) (by show U.blen _ < _; omega), num_eq _ (U.isb_binl _) k (by omega) (by show U.blen _ < _; omega)]
  simp only [Option.bind_some]
  rw [U.val_binl, U.val_binl, p]
theorem list_eq (v : Nat) (hv : v < 340282366920938463463374607431768211456) (k : Nat) (hk : 1000 < k) : gimballaw02_list.f k ((v / 18446744073709551616 : Nat) : Int) ((v % 18446744073709551616 : Nat) : Int) = some (U.binl v) := by
  unfold gimballaw02_list.f
  have l1 := (U.blen_le 64 (v % 18446744073709551616)).2 (by omega)
  have l2 := (U.blen_le 64 (v / 18446744073709551616)).2 (by omega)
  rw [of_eq _ (by omega) k (by omega), of_eq _ (by omega) k (by omega)]
  simp only [U.bs]
  have u := up_binl (v / 18446744073709551616) 64 (by omega) k (by omega)
  rw [show ((64 : Nat) : Int) = 64 from rfl] at u
  have e : 2 ^ 64 = 18446744073709551616 := by decide
  rw [u, U.bs, e]
  have l3 := (U.blen_le 128 (v / 18446744073709551616 * 18446744073709551616)).2 (by omega)
  rw [add_binl _ _ 128 (by omega) l3 (by omega) k (by omega), U.bs]
  congr 2; omega
theorem zz (y : Nat) : y * 340282366920938463463374607431768211456 / 18446744073709551616 % 18446744073709551616 = 0 ∧ y * 340282366920938463463374607431768211456 % 18446744073709551616 = 0 := by omega
set_option maxHeartbeats 1000000 in
theorem WideShifts : gimballaw02_WideShifts.Pure := by
  intro h l n wh wl wn
  obtain ⟨h0, h1⟩ := U.wf_u64 wh
  obtain ⟨l0, l1⟩ := U.wf_u64 wl
  obtain ⟨n0, n1⟩ := U.wf_i64 wn
  obtain ⟨h, rfl⟩ := Int.eq_ofNat_of_zero_le h0
  obtain ⟨l, rfl⟩ := Int.eq_ofNat_of_zero_le l0
  suffices q : ∀ k, 3000000 < k → gimballaw02_WideShifts.f k (h : Int) (l : Int) n = some true from ⟨3000001, q _ (by omega)⟩
  intro k hk
  obtain ⟨v, hv, eh, el⟩ : ∃ v : Nat, v < 340282366920938463463374607431768211456 ∧ h = v / 18446744073709551616 ∧ l = v % 18446744073709551616 := ⟨h * 18446744073709551616 + l, by omega, by omega, by omega⟩
  subst eh; subst el
  have lv := (U.blen_le 128 v).2 hv
  have em : mn (mx n 0) 200 = ((min n.toNat 200 : Nat) : Int) := by unfold mn mx; repeat (any_goals split)
                                                                    all_goals omega
  have d := down_eq (U.binl v) (U.isb_binl v) (min n.toNat 200) (by omega) (by show U.blen v < _; omega) k (by show 2 * U.blen v + 1 < k; omega)
  rw [U.val_binl] at d
  have u := up_binl v (min n.toNat 200) (by omega) k (by omega)
  have pw : ∀ t, 2 ^ (t + 128) = 2 ^ t * 340282366920938463463374607431768211456 := fun t => by rw [Nat.pow_add]
  have lu : U.blen (v * 2 ^ min n.toNat 200) < 1000000 := by
    refine Nat.lt_of_le_of_lt ((U.blen_le 400 _).2 ?_) (by decide)
    have p1 : 2 ^ min n.toNat 200 ≤ 2 ^ 200 := Nat.pow_le_pow_right (by decide) (by omega)
    calc v * 2 ^ min n.toNat 200 ≤ v * 2 ^ 200 := Nat.mul_le_mul_left _ p1
      _ < 2 ^ 400 := by omega
  have ld : U.blen (v / 2 ^ min n.toNat 200) < 1000000 := by
    have := U.blen_mono (Nat.div_le_self v (2 ^ min n.toNat 200)); omega
  unfold gimballaw02_WideShifts.f
  rw [head_eq k (by omega), U.bs, if_pos rfl, right_eq v hv n n0 n1, left_eq v hv n n0 n1, list_eq v hv k (by omega), em]
  simp only [U.bs]
  rw [d, u]
  simp only [U.bs]
  rw [back_eq _ k lu (by omega), U.bs]
  simp only [U.bs]
  rw [back_eq _ k ld (by omega), U.bs]
  simp only
  by_cases hn : n.toNat ≤ 200
  · rw [Nat.min_eq_left hn]
    have vs : v / 2 ^ n.toNat ≤ v := Nat.div_le_self _ _
    have e1 : v / 2 ^ n.toNat / 18446744073709551616 % 18446744073709551616 = v / 2 ^ n.toNat / 18446744073709551616 := by
      generalize v / 2 ^ n.toNat = z at vs
      omega
    rw [e1]
    simp
  · rw [Nat.min_eq_right (by omega)]
    obtain ⟨t, ht⟩ : ∃ t, n.toNat = t + 128 := ⟨n.toNat - 128, by omega⟩
    have hp := Nat.two_pow_pos t
    have p1 := pw t
    have big : v < 2 ^ n.toNat := by
      rw [ht, p1]
      have : 1 * 340282366920938463463374607431768211456 ≤ 2 ^ t * 340282366920938463463374607431768211456 := Nat.mul_le_mul_right _ hp
      omega
    have b2 : v < 2 ^ 200 := by omega
    rw [Nat.div_eq_of_lt big, Nat.mod_eq_of_lt big, Nat.div_eq_of_lt b2, Nat.mod_eq_of_lt b2, ht, p1]
    have e2 : v * (2 ^ t * 340282366920938463463374607431768211456) = v * 2 ^ t * 340282366920938463463374607431768211456 := (Nat.mul_assoc _ _ _).symm
    rw [e2]
    have p200 : (2 : Nat) ^ 200 = 2 ^ 72 * 340282366920938463463374607431768211456 := by decide
    have e3 : v * 2 ^ 200 = v * 2 ^ 72 * 340282366920938463463374607431768211456 := by rw [p200, Nat.mul_assoc]
    rw [e3]
    rw [(zz (v * 2 ^ 72)).1, (zz (v * 2 ^ 72)).2, (zz (v * 2 ^ t)).1, (zz (v * 2 ^ t)).2]
    show some (decide (v ≠ 0) == decide (v ≠ 0)) = some true
    rw [beq_self_eq_true]
end Go.Proofs.Ytjamobbfafjdmaa.Pure
