/- The law RoundPower of layer 3: what is rounded goes with powers of two, where it is no small number and none too great; no condition beyond the arguments' own ranges. -/
import Derived.Test.YtlnpcbhbcmhbkaaQRoundPowerx6
import Derived.Test.YtlnpcbhbcmhbkaaU
import Derived.Test.YtlnpcbhbcmhbkaaUB
import Derived.Test.YtlnpcbhbcmhbkaaUX
set_option linter.unusedSimpArgs false
set_option linter.unusedVariables false
set_option exponentiation.threshold 5000
namespace Go.Proofs.Ytlnpcbhbcmhbkaa.Pure
open Go.RowKit Go.Proofs.Ytlnpcbhbcmhbkaa Go.Proofs.Ytlnpcbhbcmhbkaa.QRoundPower Go.Proofs.YtlnpcbhbcmhbkaaW.PrintWords Go.Proofs.YtlnpcbhbcmhbkaaW.PrintLast
theorem exp_eq (a : Int) (h : 0 ≤ a) (h' : a < 18446744073709551616) : word_Exp.f a = some (a / 4503599627370496 % 2048) := by
  unfold word_Exp.f
  rw [U.and_2047 (by omega) (by omega), U.wrap64_id (by omega) (by omega)]
theorem make_eq (s : Bool) (e f : Int) (h : -9223372036854775808 ≤ e) (h' : e < 9223372036854775808) (g : 0 ≤ f) (g' : f < 18446744073709551616) :
    word_Make.f s e f = some ((if s = true then 9223372036854775808 else 0) + e % 2048 * 4503599627370496 + f % 4503599627370496) := by
  unfold word_Make.f
  have e0 : bits .and .u64 (IntKind.u64.wrap e) 2047 = e % 2048 := by
    rw [U.wrap_u64, U.and_2047 (by omega) (by omega)]; omega
  have e1 : IntKind.u64.wrap (bits .and .u64 (IntKind.u64.wrap e) 2047 * 4503599627370496) = e % 2048 * 4503599627370496 := by
    rw [e0]; exact U.wrap_u64_id (by omega) (by omega)
  have e2 : bits .or .u64 (IntKind.u64.wrap (bits .and .u64 (IntKind.u64.wrap e) 2047 * 4503599627370496)) (bits .and .u64 f 4503599627370495) = e % 2048 * 4503599627370496 + f % 4503599627370496 := by
    rw [e1, U.and_52 g g']
    exact U.or_join 52 (by decide) (by omega) (by omega) (by omega) (by omega) (by omega)
  rw [e2]
  cases s
  · simp
  · simp only [if_true]
    rw [U.or_63 (by omega) (by omega)]
    congr 1; omega
theorem finite_eq (a : Int) (h : 0 ≤ a) (h' : a < 18446744073709551616) : word_Finite.f a = some (decide (a / 4503599627370496 % 2048 < 2047)) := by
  unfold word_Finite.f
  rw [exp_eq a h h']
  rfl
theorem shl_pow (x : Nat) (s : Nat) (hs : s ≤ 64) : shl .u64 (x : Int) (s : Int) = ((x * 2 ^ s % 18446744073709551616 : Nat) : Int) := by
  unfold shl
  rw [Int.toNat_natCast, Nat.min_eq_left (by show s ≤ 64; exact hs), U.wrap_u64]
  have : (x : Int) * 2 ^ s = ((x * 2 ^ s : Nat) : Int) := by simp
  rw [this]; omega
theorem shr_pow (x : Nat) (s : Nat) (hs : s ≤ 64) : shr .u64 (x : Int) (s : Int) = ((x / 2 ^ s : Nat) : Int) := by
  unfold shr
  rw [Int.toNat_natCast, Nat.min_eq_left (by show s ≤ 64; exact hs)]
  simp
theorem or_nat (i x y : Nat) (hi : i ≤ 64) (hx : x % 2 ^ i = 0) (hx1 : x < 18446744073709551616) (hy : y < 2 ^ i) : bits .or .u64 (x : Int) (y : Int) = ((x + y : Nat) : Int) := by
  have z : (x : Int) % 2 ^ i = 0 := by
    have c : ((2 : Int) ^ i) = ((2 ^ i : Nat) : Int) := by simp
    rw [c]; omega
  have lt : (y : Int) < 2 ^ i := by
    have c : ((2 : Int) ^ i) = ((2 ^ i : Nat) : Int) := by simp
    rw [c]; omega
  rw [U.or_join i hi (by omega) z (by omega) (by omega) lt]; omega
theorem pow_split (s : Nat) (hs : s ≤ 64) : 2 ^ s * 2 ^ (64 - s) = 18446744073709551616 := by
  rw [← Nat.pow_add]
  have : s + (64 - s) = 64 := by omega
  rw [this]
theorem p64 : (2 : Nat) ^ 64 = 18446744073709551616 := by decide
theorem p128 : (2 : Nat) ^ 128 = 18446744073709551616 * 18446744073709551616 := by decide
theorem mod_split (x P Q : Nat) (hPQ : P * Q = 18446744073709551616) : x * Q % 18446744073709551616 = x % P * Q := by rw [← hPQ, Nat.mul_mod_mul_right]
theorem ne_pair (a b c d : Int) : (!(a == c) || !(b == d)) = !(decide (a = c ∧ b = d)) := by
  by_cases h1 : a = c
  · by_cases h2 : b = d
    · simp [h1, h2]
    · simp [h1, h2]
  · simp [h1]
/-- The high word of h B + l times 2^s, and the low one. -/
theorem left_arith (h l P Q : Nat) (hPQ : P * Q = 18446744073709551616) (hP : 0 < P) (hQ : 0 < Q) (hl : l < 18446744073709551616) :
    ((h * 18446744073709551616 + l) * P / 18446744073709551616 % 18446744073709551616 = h * P % 18446744073709551616 + l / Q) ∧
    ((h * 18446744073709551616 + l) * P % 18446744073709551616 = l * P % 18446744073709551616) ∧ h * P % 18446744073709551616 % P = 0 ∧ l / Q < P ∧ h * P % 18446744073709551616 + l / Q < 18446744073709551616 := by
  have e1 : (h * 18446744073709551616 + l) * P = h * P * 18446744073709551616 + l * P := by rw [Nat.add_mul]; congr 1; rw [Nat.mul_assoc, Nat.mul_comm 18446744073709551616, ← Nat.mul_assoc]
  have d1 : l = Q * (l / Q) + l % Q := (Nat.div_add_mod l Q).symm
  have m1 : l % Q < Q := Nat.mod_lt _ hQ
  have e2 : l * P = 18446744073709551616 * (l / Q) + l % Q * P := by
    conv => lhs; rw [d1]
    rw [Nat.add_mul, ← hPQ, Nat.mul_comm Q, Nat.mul_assoc, Nat.mul_comm (l / Q), Nat.mul_comm Q P]
  have b2 : l % Q * P < 18446744073709551616 := by
    rw [← hPQ, Nat.mul_comm P Q]; exact Nat.mul_lt_mul_of_pos_right m1 hP
  have e3 : l / Q < P := by
    rw [Nat.div_lt_iff_lt_mul hQ]; omega
  have d2 : h * P % 18446744073709551616 = h % Q * P := by
    conv => lhs; rw [← hPQ, Nat.mul_comm h P, Nat.mul_mod_mul_left, Nat.mul_comm]
  have m2 : h % Q < Q := Nat.mod_lt _ hQ
  have b3 : h % Q * P + P ≤ 18446744073709551616 := by
    have : (h % Q + 1) * P ≤ Q * P := Nat.mul_le_mul_right P m2
    rw [Nat.add_mul, Nat.one_mul, Nat.mul_comm Q P, hPQ] at this
    exact this
  refine ⟨?_, ?_, ?_, e3, by omega⟩
  · rw [e1, e2]; omega
  · rw [e1]; omega
  · rw [d2, Nat.mul_mod_left]
theorem left_eq (v : Nat) (hv : v < 340282366920938463463374607431768211456) (n : Int) (hn : -9223372036854775808 ≤ n) (hn' : n < 9223372036854775808) :
    wide_Wide_Left.f ((v / 18446744073709551616 : Nat) : Int) ((v % 18446744073709551616 : Nat) : Int) n = some (((v * 2 ^ n.toNat / 18446744073709551616 % 18446744073709551616 : Nat) : Int), ((v * 2 ^ n.toNat % 18446744073709551616 : Nat) : Int)) := by
  unfold wide_Wide_Left.f
  by_cases h0 : n ≤ 0
  · have : n.toNat = 0 := by omega
    rw [if_pos h0, this, Nat.pow_zero, Nat.mul_one]
    congr 2; omega
  · rw [if_neg h0]
    obtain ⟨s, rfl⟩ := Int.eq_ofNat_of_zero_le (by omega : 0 ≤ n)
    rw [Int.toNat_natCast]
    by_cases h1 : (s : Int) ≥ 128
    · rw [if_pos h1]
      obtain ⟨t, rfl⟩ : ∃ t, s = t + 128 := ⟨s - 128, by omega⟩
      have e : v * 2 ^ (t + 128) = v * 2 ^ t * 18446744073709551616 * 18446744073709551616 := by
        rw [Nat.pow_add, p128, ← Nat.mul_assoc, ← Nat.mul_assoc]
      rw [e]
      generalize v * 2 ^ t = z
      have z1 : z * 18446744073709551616 * 18446744073709551616 / 18446744073709551616 % 18446744073709551616 = 0 := by omega
      have z2 : z * 18446744073709551616 * 18446744073709551616 % 18446744073709551616 = 0 := by omega
      rw [z1, z2]; rfl
    · rw [if_neg h1]
      by_cases h2 : (s : Int) ≥ 64
      · obtain ⟨t, rfl⟩ : ∃ t, s = t + 64 := ⟨s - 64, by omega⟩
        have hw : wrap64 (((t + 64 : Nat) : Int) - 64) = (t : Int) := by rw [U.wrap64_id (by omega) (by omega)]; omega
        rw [if_pos h2, hw, if_pos (by omega), shl_pow _ _ (by omega)]
        have e : v * 2 ^ (t + 64) = v * 2 ^ t * 18446744073709551616 := by
          rw [Nat.pow_add, p64, ← Nat.mul_assoc]
        have e2 : v % 18446744073709551616 * 2 ^ t % 18446744073709551616 = v * 2 ^ t % 18446744073709551616 := Nat.mod_mul_mod _ _ _
        rw [e, e2]
        generalize v * 2 ^ t = z
        have z1 : z * 18446744073709551616 / 18446744073709551616 % 18446744073709551616 = z % 18446744073709551616 := by omega
        have z2 : z * 18446744073709551616 % 18446744073709551616 = 0 := by omega
        rw [z1, z2]; rfl
      · have hw : wrap64 (64 - (s : Int)) = ((64 - s : Nat) : Int) := by rw [U.wrap64_id (by omega) (by omega)]; omega
        obtain ⟨a1, a2, a3, a4, a5⟩ := left_arith (v / 18446744073709551616) (v % 18446744073709551616) (2 ^ s) (2 ^ (64 - s)) (pow_split s (by omega)) (Nat.two_pow_pos _) (Nat.two_pow_pos _) (by omega)
        rw [if_neg h2, if_pos (by omega), hw, if_pos (by omega), shl_pow _ _ (by omega), shl_pow _ _ (by omega), shr_pow _ _ (by omega),
          or_nat s _ _ (by omega) a3 (by omega) a4]
        have ev : v / 18446744073709551616 * 18446744073709551616 + v % 18446744073709551616 = v := by omega
        rw [ev] at a1 a2
        rw [a1, a2]
theorem wzero_eq (v : Nat) (hv : v < 340282366920938463463374607431768211456) : wide_Wide_Zero.f ((v / 18446744073709551616 : Nat) : Int) ((v % 18446744073709551616 : Nat) : Int) = some (decide (v = 0)) := by
  unfold wide_Wide_Zero.f
  rw [u64_or_nat _ _ (by omega) (by omega)]
  congr 1
  rw [Bool.eq_iff_iff]
  simp only [beq_iff_eq, decide_eq_true_eq]
  constructor
  · intro h
    have h1 : v / 18446744073709551616 ||| v % 18446744073709551616 = 0 := by omega
    have := Nat.or_eq_zero_iff.mp h1
    omega
  · rintro rfl; decide
theorem right_eq (v : Nat) (hv : v < 340282366920938463463374607431768211456) (n : Int) (hn : -9223372036854775808 ≤ n) (hn' : n < 9223372036854775808) :
    wide_Wide_Right.f ((v / 18446744073709551616 : Nat) : Int) ((v % 18446744073709551616 : Nat) : Int) n = some (((v / 2 ^ n.toNat / 18446744073709551616 : Nat) : Int), ((v / 2 ^ n.toNat % 18446744073709551616 : Nat) : Int), decide (v % 2 ^ n.toNat ≠ 0)) := by
  unfold wide_Wide_Right.f
  by_cases h0 : n ≤ 0
  · have : n.toNat = 0 := by omega
    rw [if_pos h0, this, Nat.pow_zero, Nat.div_one, Nat.mod_one]
    simp
  · rw [if_neg h0]
    obtain ⟨s, rfl⟩ := Int.eq_ofNat_of_zero_le (by omega : 0 ≤ n)
    have hz := left_eq 0 (by decide) (s : Int) hn hn'
    rw [Int.toNat_natCast] at hz ⊢
    have hp := Nat.two_pow_pos s
    by_cases h1 : (s : Int) ≥ 128
    · have big : v < 2 ^ s := Nat.lt_of_lt_of_le hv (by
        have : 2 ^ 128 ≤ 2 ^ s := Nat.pow_le_pow_right (by decide) (by omega)
        exact this)
      rw [Nat.zero_div, Nat.zero_mod, Nat.zero_mul, Nat.zero_div, Nat.zero_mod, Int.natCast_zero] at hz
      rw [if_pos h1, hz, U.bs, Nat.div_eq_of_lt big, Nat.mod_eq_of_lt big, wzero_eq v hv, U.bs]
      by_cases hv0 : v = 0
      · subst hv0; decide
      · have : (!((0 : Int) == ((v / 18446744073709551616 : Nat) : Int)) || !((0 : Int) == ((v % 18446744073709551616 : Nat) : Int))) = true := by
          simp; omega
        rw [if_pos this]
        simp [hv0]
    · have q : v / 2 ^ s * 2 ^ s ≤ v := Nat.div_mul_le_self v (2 ^ s)
      have dm := Nat.div_add_mod v (2 ^ s)
      rw [Nat.mul_comm] at dm
      have hvs : v / 2 ^ s ≤ v := Nat.div_le_self v _
      have l := left_eq (v / 2 ^ s) (by omega) (s : Int) hn hn'
      rw [Int.toNat_natCast] at l
      have key : ∀ x y : Int, x = ((v / 2 ^ s / 18446744073709551616 : Nat) : Int) → y = ((v / 2 ^ s % 18446744073709551616 : Nat) : Int) →
          ((wide_Wide_Left.f x y (s : Int)).bind fun bt => if (!(bt.1 == ((v / 18446744073709551616 : Nat) : Int)) || !(bt.2 == ((v % 18446744073709551616 : Nat) : Int))) = true then some (x, y, true) else some (x, y, false)) = some (((v / 2 ^ s / 18446744073709551616 : Nat) : Int), ((v / 2 ^ s % 18446744073709551616 : Nat) : Int), decide (v % 2 ^ s ≠ 0)) := by
        rintro x y rfl rfl
        rw [l, U.bs]
        simp only
        rw [ne_pair]
        by_cases hr : v % 2 ^ s = 0
        · have : v / 2 ^ s * 2 ^ s = v := by omega
          have c : ((v / 2 ^ s * 2 ^ s / 18446744073709551616 % 18446744073709551616 : Nat) : Int) = ((v / 18446744073709551616 : Nat) : Int) ∧ ((v / 2 ^ s * 2 ^ s % 18446744073709551616 : Nat) : Int) = ((v % 18446744073709551616 : Nat) : Int) := by rw [this]; omega
          rw [decide_eq_true c, hr]; rfl
        · have c : ¬ (((v / 2 ^ s * 2 ^ s / 18446744073709551616 % 18446744073709551616 : Nat) : Int) = ((v / 18446744073709551616 : Nat) : Int) ∧ ((v / 2 ^ s * 2 ^ s % 18446744073709551616 : Nat) : Int) = ((v % 18446744073709551616 : Nat) : Int)) := by
            generalize v / 2 ^ s * 2 ^ s = z at *
            generalize v % 2 ^ s = y at *
            omega
          rw [decide_eq_false c, decide_eq_true (show v % 2 ^ s ≠ 0 from hr)]; rfl
      rw [if_neg h1]
      by_cases h2 : (s : Int) ≥ 64
      · obtain ⟨t, rfl⟩ : ∃ t, s = t + 64 := ⟨s - 64, by omega⟩
        have hw : wrap64 (((t + 64 : Nat) : Int) - 64) = (t : Int) := by rw [U.wrap64_id (by omega) (by omega)]; omega
        have e : v / 2 ^ (t + 64) = v / 18446744073709551616 / 2 ^ t := by
          rw [Nat.pow_add, p64, Nat.mul_comm, ← Nat.div_div_eq_div_mul]
        have lt : v / 18446744073709551616 / 2 ^ t < 18446744073709551616 := by
          have := Nat.div_le_self (v / 18446744073709551616) (2 ^ t); omega
        rw [if_pos h2, hw, if_pos (by omega), shr_pow _ _ (by omega)]
        refine key 0 _ ?_ ?_
        · rw [e]; generalize v / 18446744073709551616 / 2 ^ t = z at lt; omega
        · rw [e]; generalize v / 18446744073709551616 / 2 ^ t = z at lt; omega
      · have hw : wrap64 (64 - (s : Int)) = ((64 - s : Nat) : Int) := by rw [U.wrap64_id (by omega) (by omega)]; omega
        have hPQ := pow_split s (by omega)
        have hQ := Nat.two_pow_pos (64 - s)
        rw [if_neg h2, if_pos (by omega), hw, if_pos (by omega), shl_pow _ _ (by omega), shr_pow _ _ (by omega), shr_pow _ _ (by omega)]
        have d2 := mod_split (v / 18446744073709551616) (2 ^ s) (2 ^ (64 - s)) hPQ
        have lq : v % 18446744073709551616 / 2 ^ s < 2 ^ (64 - s) := by
          rw [Nat.div_lt_iff_lt_mul hp, Nat.mul_comm, hPQ]; exact Nat.mod_lt _ (by decide)
        have ms : v / 18446744073709551616 % 2 ^ s < 2 ^ s := Nat.mod_lt _ hp
        have b3 : v / 18446744073709551616 % 2 ^ s * 2 ^ (64 - s) + 2 ^ (64 - s) ≤ 18446744073709551616 := by
          have : (v / 18446744073709551616 % 2 ^ s + 1) * 2 ^ (64 - s) ≤ 2 ^ s * 2 ^ (64 - s) := Nat.mul_le_mul_right _ ms
          rw [Nat.add_mul, Nat.one_mul, hPQ] at this
          exact this
        rw [d2, or_nat (64 - s) _ _ (by omega) (Nat.mul_mod_left _ _) (by omega) lq]
        have ev : v = v / 18446744073709551616 * 18446744073709551616 + v % 18446744073709551616 := by omega
        have e : v / 2 ^ s = v / 18446744073709551616 / 2 ^ s * 18446744073709551616 + (v / 18446744073709551616 % 2 ^ s * 2 ^ (64 - s) + v % 18446744073709551616 / 2 ^ s) := by
          have dh := Nat.div_add_mod (v / 18446744073709551616) (2 ^ s)
          have e1 : v = 2 ^ s * (v / 18446744073709551616 / 2 ^ s * 18446744073709551616 + v / 18446744073709551616 % 2 ^ s * 2 ^ (64 - s)) + v % 18446744073709551616 := by
            conv => lhs; rw [ev]
            congr 1
            conv => lhs; rw [← dh]
            rw [Nat.add_mul, Nat.mul_add, Nat.mul_assoc]
            congr 1
            rw [← Nat.mul_assoc, Nat.mul_comm (2 ^ s) (v / 18446744073709551616 % 2 ^ s), Nat.mul_assoc, hPQ]
          conv => lhs; rw [e1]
          rw [Nat.mul_add_div hp]
          omega
        have b4 : v / 18446744073709551616 % 2 ^ s * 2 ^ (64 - s) + v % 18446744073709551616 / 2 ^ s < 18446744073709551616 := by omega
        refine key _ _ ?_ ?_
        · rw [e]
          generalize v / 18446744073709551616 % 2 ^ s * 2 ^ (64 - s) + v % 18446744073709551616 / 2 ^ s = y at b4
          generalize v / 18446744073709551616 / 2 ^ s = x
          omega
        · rw [e]
          generalize v / 18446744073709551616 % 2 ^ s * 2 ^ (64 - s) + v % 18446744073709551616 / 2 ^ s = y at b4
          generalize v / 18446744073709551616 / 2 ^ s = x
          omega
theorem wadd_eq (v u : Nat) (hv : v < 340282366920938463463374607431768211456) (hu : u < 340282366920938463463374607431768211456) :
    wide_Wide_Add.f ((v / 18446744073709551616 : Nat) : Int) ((v % 18446744073709551616 : Nat) : Int) ((u / 18446744073709551616 : Nat) : Int) ((u % 18446744073709551616 : Nat) : Int) =
      some ((((v + u) % 340282366920938463463374607431768211456 / 18446744073709551616 : Nat) : Int), (((v + u) % 340282366920938463463374607431768211456 % 18446744073709551616 : Nat) : Int), decide (340282366920938463463374607431768211456 ≤ v + u)) := by
  unfold wide_Wide_Add.f bits_Add64.f UX.addF
  rw [if_pos (by omega), U.bs, if_pos (by omega), U.bs]
  congr 2
  · omega
  · congr 1
    · omega
    · rw [Bool.eq_iff_iff]; simp only [beq_iff_eq, decide_eq_true_eq]; omega
theorem bitLen_blen (n : Nat) : bitLen n = U.blen n := by
  obtain ⟨h1, h2⟩ := bitLen_spec n
  have a := (U.blen_le (bitLen n) n).2 h1
  by_cases h : n = 0
  · subst h; rw [U.blen_zero]; rfl
  · have b := (U.blen_le (bitLen n - 1) n)
    have c := h2 h
    have d : bitLen n ≠ 0 := by
      intro e; rw [e] at h1; omega
    omega
set_option maxRecDepth 100000 in
theorem bt_len8 (i : Nat) (h : i < 256) : bt (⟨#[0, 1, 2, 2, 3, 3, 3, 3, 4, 4, 4, 4, 4, 4, 4, 4, 5, 5, 5, 5, 5, 5, 5, 5, 5, 5, 5, 5, 5, 5, 5, 5, 6, 6, 6, 6, 6, 6, 6, 6, 6, 6, 6, 6, 6, 6, 6, 6, 6, 6, 6, 6, 6, 6, 6, 6, 6, 6, 6, 6, 6, 6, 6, 6, 7, 7, 7, 7, 7, 7, 7, 7, 7, 7, 7, 7, 7, 7, 7, 7, 7, 7, 7, 7, 7, 7, 7, 7, 7, 7, 7, 7, 7, 7, 7, 7, 7, 7, 7, 7, 7, 7, 7, 7, 7, 7, 7, 7, 7, 7, 7, 7, 7, 7, 7, 7, 7, 7, 7, 7, 7, 7, 7, 7, 7, 7, 7, 7, 8, 8, 8, 8, 8, 8, 8, 8, 8, 8, 8, 8, 8, 8, 8, 8, 8, 8, 8, 8, 8, 8, 8, 8, 8, 8, 8, 8, 8, 8, 8, 8, 8, 8, 8, 8, 8, 8, 8, 8, 8, 8, 8, 8, 8, 8, 8, 8, 8, 8, 8, 8, 8, 8, 8, 8, 8, 8, 8, 8, 8, 8, 8, 8, 8, 8, 8, 8, 8, 8, 8, 8, 8, 8, 8, 8, 8, 8, 8, 8, 8, 8, 8, 8, 8, 8, 8, 8, 8, 8, 8, 8, 8, 8, 8, 8, 8, 8, 8, 8, 8, 8, 8, 8, 8, 8, 8, 8, 8, 8, 8, 8, 8, 8, 8, 8, 8, 8, 8, 8, 8, 8, 8, 8, 8, 8, 8, 8]⟩ : ByteArray) (i : Int) = ((U.blen i : Nat) : Int) := by
  unfold bt
  have hs : (i : Int).toNat < ((⟨#[0, 1, 2, 2, 3, 3, 3, 3, 4, 4, 4, 4, 4, 4, 4, 4, 5, 5, 5, 5, 5, 5, 5, 5, 5, 5, 5, 5, 5, 5, 5, 5, 6, 6, 6, 6, 6, 6, 6, 6, 6, 6, 6, 6, 6, 6, 6, 6, 6, 6, 6, 6, 6, 6, 6, 6, 6, 6, 6, 6, 6, 6, 6, 6, 7, 7, 7, 7, 7, 7, 7, 7, 7, 7, 7, 7, 7, 7, 7, 7, 7, 7, 7, 7, 7, 7, 7, 7, 7, 7, 7, 7, 7, 7, 7, 7, 7, 7, 7, 7, 7, 7, 7, 7, 7, 7, 7, 7, 7, 7, 7, 7, 7, 7, 7, 7, 7, 7, 7, 7, 7, 7, 7, 7, 7, 7, 7, 7, 8, 8, 8, 8, 8, 8, 8, 8, 8, 8, 8, 8, 8, 8, 8, 8, 8, 8, 8, 8, 8, 8, 8, 8, 8, 8, 8, 8, 8, 8, 8, 8, 8, 8, 8, 8, 8, 8, 8, 8, 8, 8, 8, 8, 8, 8, 8, 8, 8, 8, 8, 8, 8, 8, 8, 8, 8, 8, 8, 8, 8, 8, 8, 8, 8, 8, 8, 8, 8, 8, 8, 8, 8, 8, 8, 8, 8, 8, 8, 8, 8, 8, 8, 8, 8, 8, 8, 8, 8, 8, 8, 8, 8, 8, 8, 8, 8, 8, 8, 8, 8, 8, 8, 8, 8, 8, 8, 8, 8, 8, 8, 8, 8, 8, 8, 8, 8, 8, 8, 8, 8, 8, 8, 8, 8, 8, 8, 8]⟩ : ByteArray)).size := by rw [Int.toNat_natCast]; exact h
  rw [dif_pos hs]
  have := len8tab_get (i : Int).toNat hs
  rw [this, Int.toNat_natCast, bitLen_blen]
theorem blen_shift (x b : Nat) (h : x / 2 ^ b ≠ 0) : U.blen x = b + U.blen (x / 2 ^ b) := by
  rw [← bitLen_blen, ← bitLen_blen]; exact bitLen_shift x b h
theorem len64_j0 (k x y : Nat) (hx : x < 4294967296) (hy : y ≤ 32) : bits_Len64.j0 (k + 1) (x : Int) (y : Int) = some ((y + U.blen x : Nat) : Int) := by
  have w1 : wrap64 ((y : Int) + 16) = (y : Int) + 16 := U.wrap64_id (by omega) (by omega)
  have w2 : wrap64 ((y : Int) + 8) = (y : Int) + 8 := U.wrap64_id (by omega) (by omega)
  have w3 : wrap64 ((y : Int) + 16 + 8) = (y : Int) + 16 + 8 := U.wrap64_id (by omega) (by omega)
  have small : ∀ i : Nat, i < 256 → U.blen i ≤ 8 := fun i hi => (U.blen_le 8 i).2 hi
  rw [bits_Len64.j0]
  by_cases h1 : (x : Int) ≥ 65536
  · rw [if_pos h1]
    have e1 : (x : Int) / 65536 = ((x / 65536 : Nat) : Int) := by omega
    have s1 := blen_shift x 16 (by show x / 65536 ≠ 0; omega)
    rw [show (2 : Nat) ^ 16 = 65536 from rfl] at s1
    rw [e1]
    by_cases h2 : ((x / 65536 : Nat) : Int) ≥ 256
    · have s2 := blen_shift (x / 65536) 8 (by show x / 65536 / 256 ≠ 0; omega)
      rw [show (2 : Nat) ^ 8 = 256 from rfl] at s2
      have e2 : ((x / 65536 : Nat) : Int) / 256 % 256 = ((x / 65536 / 256 : Nat) : Int) := by omega
      have b := small (x / 65536 / 256) (by omega)
      rw [if_pos h2, e2, if_pos (by omega), if_pos (by omega), bt_len8 _ (by omega), w1, w3]
      rw [U.wrap64_id (a := ((U.blen (x / 65536 / 256) : Nat) : Int)) (by omega) (by omega), U.wrap64_id (by omega) (by omega)]
      exact congrArg some (by omega)
    · have e2 : ((x / 65536 : Nat) : Int) % 256 = ((x / 65536 : Nat) : Int) := by omega
      have b := small (x / 65536) (by omega)
      rw [if_neg h2, e2, if_pos (by omega), if_pos (by omega), bt_len8 _ (by omega), w1]
      rw [U.wrap64_id (a := ((U.blen (x / 65536) : Nat) : Int)) (by omega) (by omega), U.wrap64_id (by omega) (by omega)]
      exact congrArg some (by omega)
  · rw [if_neg h1]
    by_cases h2 : (x : Int) ≥ 256
    · have s2 := blen_shift x 8 (by show x / 256 ≠ 0; omega)
      rw [show (2 : Nat) ^ 8 = 256 from rfl] at s2
      have e2 : (x : Int) / 256 % 256 = ((x / 256 : Nat) : Int) := by omega
      have b := small (x / 256) (by omega)
      rw [if_pos h2, e2, if_pos (by omega), if_pos (by omega), bt_len8 _ (by omega), w2]
      rw [U.wrap64_id (a := ((U.blen (x / 256) : Nat) : Int)) (by omega) (by omega), U.wrap64_id (by omega) (by omega)]
      exact congrArg some (by omega)
    · have e2 : (x : Int) % 256 = ((x : Nat) : Int) := by omega
      have b := small x (by omega)
      rw [if_neg h2, e2, if_pos (by omega), if_pos (by omega), bt_len8 _ (by omega)]
      rw [U.wrap64_id (a := ((U.blen x : Nat) : Int)) (by omega) (by omega), U.wrap64_id (by omega) (by omega)]
      exact congrArg some (by omega)
theorem len64_eq (k x : Nat) (hx : x < 18446744073709551616) : bits_Len64.f (k + 1) (x : Int) = some ((U.blen x : Nat) : Int) := by
  unfold bits_Len64.f
  by_cases h : (x : Int) ≥ 4294967296
  · have e : (x : Int) / 4294967296 = ((x / 4294967296 : Nat) : Int) := by omega
    have s := blen_shift x 32 (by show x / 4294967296 ≠ 0; omega)
    rw [show (2 : Nat) ^ 32 = 4294967296 from rfl] at s
    have j := len64_j0 k (x / 4294967296) 32 (by omega) (by omega)
    rw [show ((32 : Nat) : Int) = 32 from rfl] at j
    rw [if_pos h, e, j, s]
  · have j := len64_j0 k x 0 (by omega) (by omega)
    rw [Nat.zero_add] at j
    rw [if_neg h]; exact j
theorem wlen_eq (k v : Nat) (hv : v < 340282366920938463463374607431768211456) : wide_Wide_Len.f (k + 1) ((v / 18446744073709551616 : Nat) : Int) ((v % 18446744073709551616 : Nat) : Int) = some ((U.blen v : Nat) : Int) := by
  unfold wide_Wide_Len.f
  by_cases h : ((v / 18446744073709551616 : Nat) : Int) = 0
  · rw [if_pos h, len64_eq k _ (by omega), U.bs]
    have : v % 18446744073709551616 = v := by omega
    rw [this]
  · have s := blen_shift v 64 (by rw [p64]; omega)
    rw [p64] at s
    have b := (U.blen_le 64 (v / 18446744073709551616)).2 (by omega)
    rw [if_neg h, len64_eq k _ (by omega), U.bs, U.wrap64_id (by omega) (by omega), s]
    rfl
theorem rsplit_eq (v d : Nat) (hv : v < 340282366920938463463374607431768211456) (hd : 0 < d) (hd2 : d < 1000000) (hv0 : v ≠ 0) :
    round_split.f ((v / 18446744073709551616 : Nat) : Int) ((v % 18446744073709551616 : Nat) : Int) (d : Int) (decide (v % 2 ^ d ≠ 0)) = some (decide (v / 2 ^ (d - 1) % 2 = 1), decide (v % 2 ^ (d - 1) ≠ 0)) := by
  unfold round_split.f
  by_cases h : (d : Int) > 128
  · have big : ∀ t, 128 ≤ t → v < 2 ^ t := fun t ht => Nat.lt_of_lt_of_le hv (by
      have : 2 ^ 128 ≤ 2 ^ t := Nat.pow_le_pow_right (by decide) ht
      rw [p128] at this; exact this)
    rw [if_pos h, Nat.mod_eq_of_lt (big d (by omega)), Nat.mod_eq_of_lt (big (d - 1) (by omega)), Nat.div_eq_of_lt (big (d - 1) (by omega))]
    simp
  · have w : wrap64 ((d : Int) - 1) = ((d - 1 : Nat) : Int) := by rw [U.wrap64_id (by omega) (by omega)]; omega
    have r := right_eq v hv ((d - 1 : Nat) : Int) (by omega) (by omega)
    rw [Int.toNat_natCast] at r
    rw [if_neg h, w, r, U.bs]
    simp only
    rw [U.and_1 (by omega) (by omega)]
    congr 2
    rw [Bool.eq_iff_iff]
    simp only [beq_iff_eq, decide_eq_true_eq]
    generalize v / 2 ^ (d - 1) = z
    omega
/-- How many bits fall out. -/
def rDrop (L e : Int) : Int := if e + (L - 53) < -1074 then -1074 - e else L - 53
/-- Half of the last place falls out, or more is told: is one added? -/
def rUp (v d : Nat) (more : Bool) : Bool := decide (v / 2 ^ (d - 1) % 2 = 1) && (decide (v % 2 ^ (d - 1) ≠ 0) || more || decide (v / 2 ^ d % 2 = 1))
def rM (v : Nat) (drop : Int) (more : Bool) : Nat :=
  if 0 < drop then v / 2 ^ drop.toNat + (if rUp v drop.toNat more then 1 else 0) else v * 2 ^ (-drop).toNat
def rLost (v : Nat) (drop : Int) (more : Bool) : Bool := (decide (0 < drop) && decide (v % 2 ^ drop.toNat ≠ 0)) || more
/-- The pattern, without its sign, before infinity is looked at. -/
def rPat (v : Nat) (e : Int) (more : Bool) : Nat := (e + rDrop (U.blen v) e + 1074).toNat * 4503599627370496 + rM v (rDrop (U.blen v) e) more
def clampE (e : Int) : Int := mx (-100000) (mn e 100000)
def rFlag (v : Nat) (e : Int) (more : Bool) : Int :=
  (if rLost v (rDrop (U.blen v) e) more then (if e + (U.blen v : Int) < -1021 then 3 else 1) else 0)
def rBits (neg : Bool) (v : Nat) (e : Int) (more : Bool) : Int :=
  (if neg = true then 9223372036854775808 else 0) + (if v = 0 then 0 else if 9218868437227405312 ≤ rPat v e more then 9218868437227405312 else (rPat v e more : Int))
def rFlags (v : Nat) (e : Int) (more : Bool) : Int :=
  if v = 0 then (if more then 3 else 0) else if 9218868437227405312 ≤ rPat v e more then Go.bits .or .u8 (Go.bits .or .u8 (rFlag v e more) 4) 1 else rFlag v e more
theorem rDrop_ge (L e : Int) : -1074 ≤ e + rDrop L e := by unfold rDrop; split <;> omega
theorem rM_le (v : Nat) (e : Int) (more : Bool) (hv : v ≠ 0) : rM v (rDrop (U.blen v) e) more ≤ 9007199254740992 := by
  have hl := U.lt_blen v
  unfold rM
  by_cases h : 0 < rDrop (U.blen v) e
  · rw [if_pos h]
    have : v / 2 ^ (rDrop (U.blen v) e).toNat < 9007199254740992 := by
      rw [Nat.div_lt_iff_lt_mul (Nat.two_pow_pos _)]
      refine Nat.lt_of_lt_of_le hl ?_
      have e1 : 9007199254740992 = 2 ^ 53 := by decide
      rw [e1, ← Nat.pow_add]
      refine Nat.pow_le_pow_right (by decide) ?_
      unfold rDrop at h ⊢; split at h <;> rename_i c
      · rw [if_pos c]; omega
      · rw [if_neg c]; omega
    split <;> omega
  · rw [if_neg h]
    have hb : U.blen v ≠ 0 := fun c => hv (U.blen_eq_zero.1 c)
    have : v * 2 ^ (-rDrop (U.blen v) e).toNat < 2 ^ (U.blen v) * 2 ^ (-rDrop (U.blen v) e).toNat := Nat.mul_lt_mul_of_pos_right hl (Nat.two_pow_pos _)
    rw [← Nat.pow_add] at this
    have : 2 ^ (U.blen v + (-rDrop (U.blen v) e).toNat) ≤ 2 ^ 53 := by
      refine Nat.pow_le_pow_right (by decide) ?_
      unfold rDrop at h ⊢; split at h <;> rename_i c
      · rw [if_pos c]; omega
      · rw [if_neg c]; omega
    have e1 : 2 ^ 53 = 9007199254740992 := by decide
    omega
theorem rM_ge (v : Nat) (e : Int) (more : Bool) (hv : v ≠ 0) (hd : rDrop (U.blen v) e = (U.blen v : Int) - 53) : 4503599627370496 ≤ rM v (rDrop (U.blen v) e) more := by
  have hl := U.blen_ge v hv
  have hb : U.blen v ≠ 0 := fun c => hv (U.blen_eq_zero.1 c)
  have e1 : 4503599627370496 = 2 ^ 52 := by decide
  unfold rM
  rw [hd]
  by_cases h : 0 < (U.blen v : Int) - 53
  · rw [if_pos h]
    have : 4503599627370496 ≤ v / 2 ^ ((U.blen v : Int) - 53).toNat := by
      rw [Nat.le_div_iff_mul_le (Nat.two_pow_pos _), e1, ← Nat.pow_add]
      refine Nat.le_trans (Nat.pow_le_pow_right (by decide) ?_) hl
      omega
    omega
  · rw [if_neg h]
    have : 2 ^ (U.blen v - 1) * 2 ^ (-((U.blen v : Int) - 53)).toNat ≤ v * 2 ^ (-((U.blen v : Int) - 53)).toNat := Nat.mul_le_mul_right _ hl
    rw [← Nat.pow_add] at this
    refine Nat.le_trans ?_ this
    rw [e1]
    exact Nat.pow_le_pow_right (by decide) (by omega)
theorem clampE_bd (e : Int) : -100000 ≤ clampE e ∧ clampE e ≤ 100000 := by
  unfold clampE mx mn; repeat (any_goals split)
  all_goals omega
/-- What follows the rounding: the pattern and the flags. -/
theorem round_j2 (k : Nat) (neg : Bool) (e drop : Int) (tiny lost : Bool) (hi : Int) (m : Nat) (he : -200000 ≤ e) (he' : e ≤ 200000) (hd : -200000 ≤ drop) (hd' : drop ≤ 200000)
    (ht : -1074 ≤ e + drop) (hm : m ≤ 9007199254740992) (hm2 : m < 4503599627370496 → e + drop = -1074) :
    round_Round.j2 (k + 3) neg e drop tiny lost hi (m : Int) =
      some ((if neg = true then 9223372036854775808 else 0) + (if 9218868437227405312 ≤ (e + drop + 1074).toNat * 4503599627370496 + m then 9218868437227405312 else (((e + drop + 1074).toNat * 4503599627370496 + m : Nat) : Int)),
        if 9218868437227405312 ≤ (e + drop + 1074).toNat * 4503599627370496 + m then Go.bits .or .u8 (Go.bits .or .u8 (if lost then (if tiny then 3 else 1) else 0) 4) 1 else (if lost then (if tiny then 3 else 1) else 0)) := by
  have w1 : wrap64 (e + drop) = e + drop := U.wrap64_id (by omega) (by omega)
  have w2 : wrap64 (e + drop + 1) = e + drop + 1 := U.wrap64_id (by omega) (by omega)
  have b1 : Go.bits .or .u8 (Go.bits .or .u8 0 1) 2 = 3 := by decide
  have b2 : Go.bits .or .u8 0 1 = 1 := by decide
  have j4 : ∀ (x m' f : Int) (P : Nat), -300000 ≤ x → x ≤ 500000 → 0 ≤ m' → m' < 9007199254740992 → (m' < 4503599627370496 → (P : Int) = m' ∧ m' < 9218868437227405312) → (4503599627370496 ≤ m' → (P : Int) = (x + 1074) * 4503599627370496 + m' ∧ -1074 ≤ x) →
      round_Round.j4 (k + 1) neg x m' f = some ((if neg = true then 9223372036854775808 else 0) + (if 9218868437227405312 ≤ P then 9218868437227405312 else (P : Int)), if 9218868437227405312 ≤ P then Go.bits .or .u8 (Go.bits .or .u8 f 4) 1 else f) := by
    intro x m' f P x1 x2 m1 m2 p1 p2
    have w3 : wrap64 (x + 1075) = x + 1075 := U.wrap64_id (by omega) (by omega)
    rw [round_Round.j4, w3]
    by_cases c : m' < 4503599627370496
    · have q := p1 c
      have np : ¬ 9218868437227405312 ≤ P := by omega
      rw [if_pos c, make_eq _ _ _ (by omega) (by omega) (by omega) (by omega), U.bs]
      simp only [if_neg np]
      generalize (if neg = true then (9223372036854775808 : Int) else 0) = s
      have : s + 0 % 2048 * 4503599627370496 + m' % 4503599627370496 = s + (P : Int) := by omega
      rw [this]
    · have q := p2 (by omega)
      rw [if_neg c]
      by_cases c2 : x + 1075 ≥ 2047
      · have np : 9218868437227405312 ≤ P := by omega
        rw [if_pos c2, make_eq _ _ _ (by omega) (by omega) (by omega) (by omega), U.bs]
        simp only [if_pos np]
        generalize (if neg = true then (9223372036854775808 : Int) else 0) = s
        have : s + 2047 % 2048 * 4503599627370496 + 0 % 4503599627370496 = s + 9218868437227405312 := by omega
        rw [this]
      · have np : ¬ 9218868437227405312 ≤ P := by omega
        rw [if_neg c2, make_eq _ _ _ (by omega) (by omega) (by omega) (by omega), U.bs]
        simp only [if_neg np]
        generalize (if neg = true then (9223372036854775808 : Int) else 0) = s
        have : s + (x + 1075) % 2048 * 4503599627370496 + m' % 4503599627370496 = s + (P : Int) := by omega
        rw [this]
  have j3 : ∀ (x m' : Int) (P : Nat), -300000 ≤ x → x ≤ 500000 → 0 ≤ m' → m' < 9007199254740992 → (m' < 4503599627370496 → (P : Int) = m' ∧ m' < 9218868437227405312) → (4503599627370496 ≤ m' → (P : Int) = (x + 1074) * 4503599627370496 + m' ∧ -1074 ≤ x) →
      round_Round.j3 (k + 2) neg x tiny lost m' = some ((if neg = true then 9223372036854775808 else 0) + (if 9218868437227405312 ≤ P then 9218868437227405312 else (P : Int)), if 9218868437227405312 ≤ P then Go.bits .or .u8 (Go.bits .or .u8 (if lost then (if tiny then 3 else 1) else 0) 4) 1 else (if lost then (if tiny then 3 else 1) else 0)) := by
    intro x m' P x1 x2 m1 m2 p1 p2
    rw [round_Round.j3, b1, b2]
    cases lost with
    | true =>
      cases tiny with
      | true => exact j4 x m' 3 P x1 x2 m1 m2 p1 p2
      | false => exact j4 x m' 1 P x1 x2 m1 m2 p1 p2
    | false => exact j4 x m' 0 P x1 x2 m1 m2 p1 p2
  rw [round_Round.j2, w1, w2]
  by_cases c : (m : Int) = 9007199254740992
  · rw [if_pos c]
    exact j3 _ _ _ (by omega) (by omega) (by omega) (by omega) (by omega) (by omega)
  · rw [if_neg c]
    exact j3 _ _ _ (by omega) (by omega) (by omega) (by omega) (by omega) (by omega)
theorem mod_pred (v d : Nat) (hd : 0 < d) : (v % 2 ^ d ≠ 0) ↔ (v / 2 ^ (d - 1) % 2 = 1 ∨ v % 2 ^ (d - 1) ≠ 0) := by
  obtain ⟨c, rfl⟩ : ∃ c, d = c + 1 := ⟨d - 1, by omega⟩
  rw [Nat.add_sub_cancel, Nat.pow_succ, Nat.mod_mul]
  have hp := Nat.two_pow_pos c
  have h2 : v / 2 ^ c % 2 = 0 ∨ v / 2 ^ c % 2 = 1 := by omega
  rcases h2 with h2 | h2
  · rw [h2]; simp
  · rw [h2]; simp
theorem round_eq (k : Nat) (neg : Bool) (v : Nat) (e : Int) (more : Bool) (hv : v < 340282366920938463463374607431768211456) :
    round_Round.f (k + 5) neg ((v / 18446744073709551616 : Nat) : Int) ((v % 18446744073709551616 : Nat) : Int) e more = some (rBits neg v (clampE e) more, rFlags v (clampE e) more) := by
  have cb := clampE_bd e
  unfold round_Round.f
  rw [wzero_eq v hv, U.bs]
  by_cases h0 : v = 0
  · subst h0
    have m0 : word_Make.f neg 0 0 = some ((if neg = true then 9223372036854775808 else 0) + 0 + 0) := make_eq _ _ _ (by decide) (by decide) (by decide) (by decide)
    rw [if_pos (by decide), m0]
    unfold rBits rFlags
    cases more with
    | true => rw [if_pos rfl, U.bs]; simp only [if_true, Int.add_zero]
    | false => rw [if_neg (show ¬ false = true by decide), U.bs]; simp only [if_true, Int.add_zero, Bool.false_eq_true, if_false]
  · have lb := (U.blen_le 128 v).2 (by rw [p128]; exact hv)
    have lb0 : U.blen v ≠ 0 := fun c => h0 (U.blen_eq_zero.1 c)
    have w1 : wrap64 (((U.blen v : Nat) : Int) - 53) = (U.blen v : Int) - 53 := U.wrap64_id (by omega) (by omega)
    have fold : mx (-100000) (mn e 100000) = clampE e := rfl
    rw [if_neg (by simpa using h0), fold, wlen_eq _ v hv, U.bs, U.bs, w1, U.wrap64_id (a := clampE e + ((U.blen v : Int) - 53)) (by omega) (by omega), U.wrap64_id (a := clampE e + ((U.blen v : Nat) : Int)) (by omega) (by omega)]
    have hm := rM_le v (clampE e) more h0
    have hge := rDrop_ge (U.blen v) (clampE e)
    have hm2 : rM v (rDrop (U.blen v) (clampE e)) more < 4503599627370496 → clampE e + rDrop (U.blen v) (clampE e) = -1074 := by
      intro hlt
      by_cases hd : rDrop (U.blen v) (clampE e) = (U.blen v : Int) - 53
      · have := rM_ge v (clampE e) more h0 hd; omega
      · unfold rDrop at hd ⊢
        by_cases c : clampE e + ((U.blen v : Int) - 53) < -1074
        · rw [if_pos c] <;> omega
        · rw [if_neg c] at hd; exact absurd rfl hd
    have hdb : -200000 ≤ rDrop (U.blen v) (clampE e) ∧ rDrop (U.blen v) (clampE e) ≤ 200000 := by
      unfold rDrop; split <;> omega
    have j2 := fun q hi => round_j2 q neg (clampE e) (rDrop (U.blen v) (clampE e)) (decide (clampE e + ((U.blen v : Nat) : Int) < -1021)) (rLost v (rDrop (U.blen v) (clampE e)) more) hi (rM v (rDrop (U.blen v) (clampE e)) more) (by omega) (by omega) hdb.1 hdb.2 hge hm hm2
    have goal : ∀ q hi, round_Round.j2 (q + 3) neg (clampE e) (rDrop (U.blen v) (clampE e)) (decide (clampE e + ((U.blen v : Nat) : Int) < -1021)) (rLost v (rDrop (U.blen v) (clampE e)) more) hi ((rM v (rDrop (U.blen v) (clampE e)) more : Nat) : Int) = some (rBits neg v (clampE e) more, rFlags v (clampE e) more) := by
      intro q hi
      rw [j2 q hi]
      unfold rBits rFlags rPat rFlag
      rw [if_neg h0, if_neg h0]
      simp only [decide_eq_true_eq]
    have j0 : round_Round.j0 (k + 5) neg (clampE e) more (rDrop (U.blen v) (clampE e)) (decide (clampE e + ((U.blen v : Nat) : Int) < -1021)) ((v / 18446744073709551616 : Nat) : Int) ((v % 18446744073709551616 : Nat) : Int) = some (rBits neg v (clampE e) more, rFlags v (clampE e) more) := by
      rw [round_Round.j0]
      by_cases hd : rDrop (U.blen v) (clampE e) > 0
      · obtain ⟨d, hdd⟩ := Int.eq_ofNat_of_zero_le (by omega : 0 ≤ rDrop (U.blen v) (clampE e))
        rw [if_pos hd]
        have hM : rM v (rDrop (U.blen v) (clampE e)) more = v / 2 ^ d + (if rUp v d more then 1 else 0) := by
          unfold rM; rw [if_pos hd, hdd, Int.toNat_natCast]
        have hL : rLost v (rDrop (U.blen v) (clampE e)) more = (decide (v % 2 ^ d ≠ 0) || more) := by
          unfold rLost; rw [decide_eq_true hd, hdd, Int.toNat_natCast, Bool.true_and]
        have r := right_eq v hv (d : Int) (by omega) (by omega)
        rw [Int.toNat_natCast] at r
        have sp := rsplit_eq v d hv (by omega) (by omega) h0
        have mp := mod_pred v d (by omega)
        have hle := Nat.div_le_self v (2 ^ d)
        have q1 : v / 2 ^ d + 1 ≤ 9007199254740992 ∨ v / 2 ^ d ≤ 9007199254740992 := by
          rw [hM] at hm; right; split at hm <;> omega
        have low : v / 2 ^ d % 18446744073709551616 = v / 2 ^ d := Nat.mod_eq_of_lt (by omega)
        have high : v / 2 ^ d / 18446744073709551616 = 0 := Nat.div_eq_of_lt (by omega)
        rw [low, high, show ((0 : Nat) : Int) = 0 from rfl] at r
        have ad := wadd_eq (v / 2 ^ d) 1 (by omega) (by omega)
        have addlow : (v / 2 ^ d + 1) % 340282366920938463463374607431768211456 % 18446744073709551616 = v / 2 ^ d + 1 := by omega
        rw [low, high, addlow] at ad
        rw [show ((1 / 18446744073709551616 : Nat) : Int) = 0 from rfl, show ((1 % 18446744073709551616 : Nat) : Int) = 1 from rfl] at ad
        rw [hdd] at goal ⊢
        rw [r, U.bs]
        simp only
        rw [sp, U.bs]
        simp only
        rw [ad, U.and_1 (by omega) (by omega)]
        simp only [U.bs]
        rw [hdd] at hM hL
        rw [hM, hL] at goal
        by_cases half : v / 2 ^ (d - 1) % 2 = 1
        · have lost1 : decide (v % 2 ^ d ≠ 0) = true := decide_eq_true (mp.2 (Or.inl half))
          rw [lost1, Bool.true_or] at goal
          rw [if_pos (decide_eq_true half)]
          by_cases rest : v % 2 ^ (d - 1) ≠ 0
          · have up : rUp v d more = true := by unfold rUp; rw [decide_eq_true half, decide_eq_true rest]; rfl
            rw [up] at goal
            rw [if_pos (decide_eq_true rest)]
            exact goal _ _
          · rw [if_neg (by simpa using rest)]
            cases more with
            | true =>
              have up : rUp v d true = true := by unfold rUp; rw [decide_eq_true half]; simp
              rw [up] at goal
              rw [if_pos rfl]
              exact goal _ _
            | false =>
              rw [if_neg (by decide)]
              by_cases odd : v / 2 ^ d % 2 = 1
              · have up : rUp v d false = true := by unfold rUp; rw [decide_eq_true half, decide_eq_true odd]; simp
                rw [up] at goal
                have o2 : ((v / 2 ^ d : Nat) : Int) % 2 = 1 := by omega
                rw [if_pos o2]
                exact goal _ _
              · have up : rUp v d false = false := by unfold rUp; rw [decide_eq_false odd, decide_eq_false rest]; simp
                rw [up] at goal
                have o2 : ¬ ((v / 2 ^ d : Nat) : Int) % 2 = 1 := by omega
                rw [if_neg o2]
                exact goal _ _
        · have up : rUp v d more = false := by unfold rUp; rw [decide_eq_false half]; rfl
          rw [up] at goal
          rw [if_neg (by simpa using half)]
          by_cases rest : v % 2 ^ (d - 1) ≠ 0
          · have lost1 : decide (v % 2 ^ d ≠ 0) = true := decide_eq_true (mp.2 (Or.inr rest))
            rw [lost1, Bool.true_or] at goal
            rw [if_pos (decide_eq_true rest)]
            exact goal _ _
          · have lost1 : decide (v % 2 ^ d ≠ 0) = false := decide_eq_false (fun h => (mp.1 h).elim half rest)
            rw [lost1, Bool.false_or] at goal
            rw [if_neg (by simpa using rest)]
            exact goal _ _
      · rw [if_neg hd]
        have hM : rM v (rDrop (U.blen v) (clampE e)) more = v * 2 ^ (-rDrop (U.blen v) (clampE e)).toNat := by
          unfold rM; rw [if_neg hd]
        have hL : rLost v (rDrop (U.blen v) (clampE e)) more = more := by
          unfold rLost; rw [decide_eq_false hd, Bool.false_and, Bool.false_or]
        rw [hM, hL] at goal
        rw [hM] at hm
        have wn : wrap64 (-rDrop (U.blen v) (clampE e)) = -rDrop (U.blen v) (clampE e) := U.wrap64_id (by omega) (by omega)
        by_cases hneg : rDrop (U.blen v) (clampE e) < 0
        · rw [if_pos hneg]
          have l := left_eq v hv (-rDrop (U.blen v) (clampE e)) (by omega) (by omega)
          have low : v * 2 ^ (-rDrop (U.blen v) (clampE e)).toNat % 18446744073709551616 = v * 2 ^ (-rDrop (U.blen v) (clampE e)).toNat := Nat.mod_eq_of_lt (by omega)
          rw [low] at l
          rw [round_Round.j1, wn, l]
          simp only [U.bs]
          rw [if_pos hneg]
          cases more with
          | true => rw [if_neg (by decide)]; exact goal _ _
          | false => rw [if_pos (by decide)]; exact goal _ _
        · have z : rDrop (U.blen v) (clampE e) = 0 := by omega
          rw [if_neg hneg, round_Round.j1, if_neg (by decide), if_neg hneg]
          rw [z, show (-(0 : Int)).toNat = 0 from rfl, Nat.pow_zero, Nat.mul_one] at goal hm
          have low : v % 18446744073709551616 = v := Nat.mod_eq_of_lt (by omega)
          rw [z, low]
          exact goal _ _
    by_cases c : clampE e + ((U.blen v : Int) - 53) < -1074
    · rw [if_pos c]
      have : (-1074 : Int) - clampE e = rDrop (U.blen v) (clampE e) := by unfold rDrop; rw [if_pos c]
      rw [this]; exact j0
    · rw [if_neg c]
      have : (U.blen v : Int) - 53 = rDrop (U.blen v) (clampE e) := by unfold rDrop; rw [if_neg c]
      rw [this]; exact j0
theorem clampE_id {e : Int} (h : -100000 ≤ e) (h' : e ≤ 100000) : clampE e = e := by
  unfold clampE mx mn; repeat (any_goals split)
  all_goals omega
theorem blen_of {v L : Nat} (h1 : 2 ^ L ≤ v) (h2 : v < 2 ^ (L + 1)) : U.blen v = L + 1 := by
  have a := (U.blen_le (L + 1) v).2 h2
  have b := U.blen_le L v
  omega
theorem head_eq (k : Nat) : gimballaw03_head.f (k + 5) = some true := by
  unfold gimballaw03_head.f
  have r1 := round_eq k false 9007199254740993 0 false (by decide)
  have r2 := round_eq k false 9007199254740995 0 false (by decide)
  rw [show ((9007199254740993 / 18446744073709551616 : Nat) : Int) = 0 from rfl, show ((9007199254740993 % 18446744073709551616 : Nat) : Int) = 9007199254740993 from rfl] at r1
  rw [show ((9007199254740995 / 18446744073709551616 : Nat) : Int) = 0 from rfl, show ((9007199254740995 % 18446744073709551616 : Nat) : Int) = 9007199254740995 from rfl] at r2
  have l1 : U.blen 9007199254740993 = 54 := blen_of (L := 53) (by decide) (by decide)
  have l2 : U.blen 9007199254740995 = 54 := blen_of (L := 53) (by decide) (by decide)
  have d : rDrop ((54 : Nat) : Int) (clampE 0) = 1 := by decide
  have b1 : rBits false 9007199254740993 (clampE 0) false = 4845873199050653696 := by
    unfold rBits rPat rM rUp; rw [l1, d]; decide
  have f1 : rFlags 9007199254740993 (clampE 0) false = 1 := by
    unfold rFlags rPat rM rUp rFlag rLost; rw [l1, d]; decide
  have b2 : rBits false 9007199254740995 (clampE 0) false = 4845873199050653698 := by
    unfold rBits rPat rM rUp; rw [l2, d]; decide
  rw [b1, f1] at r1
  rw [b2] at r2
  have m1 : word_Make.f false 1076 0 = some 4845873199050653696 := by rw [make_eq _ _ _ (by decide) (by decide) (by decide) (by decide)]; decide
  have m2 : word_Make.f false 1076 2 = some 4845873199050653698 := by rw [make_eq _ _ _ (by decide) (by decide) (by decide) (by decide)]; decide
  rw [r1, r2, m1, m2]
  simp only [U.bs]
  decide
theorem rDrop_normal {L e : Int} (h : -1074 ≤ e + (L - 53)) : rDrop L e = L - 53 := by unfold rDrop; rw [if_neg (by omega)]
theorem and_mask_i64 {a : Int} (i : Nat) (hi : i ≤ 62) (h : -9223372036854775808 ≤ a) (h' : a < 9223372036854775808) : bits .and .i64 a (2 ^ i - 1 : Nat) = a % 2 ^ i := by
  show IntKind.i64.wrap ((BitVec.ofInt 64 a &&& BitVec.ofInt 64 ((2 ^ i - 1 : Nat) : Int)).toNat : Int) = _
  have hp := Nat.two_pow_pos i
  have hle : 2 ^ i ≤ 2 ^ 62 := Nat.pow_le_pow_right (by decide) hi
  have e : (BitVec.ofInt 64 ((2 ^ i - 1 : Nat) : Int)).toNat = 2 ^ i - 1 := by
    rw [BitVec.ofInt_natCast, BitVec.toNat_ofNat]; exact Nat.mod_eq_of_lt (by omega)
  have e2 : ((BitVec.ofInt 64 a).toNat : Int) = a % 18446744073709551616 := by
    rw [BitVec.toNat_ofInt]
    exact Int.toNat_of_nonneg (by omega)
  have c : ((2 : Int) ^ i) = ((2 ^ i : Nat) : Int) := by simp
  have dv : ((2 ^ i : Nat) : Int) ∣ 18446744073709551616 := by
    have : (2 ^ i) ∣ (2 ^ 64) := Nat.pow_dvd_pow 2 (by omega)
    have := Int.natCast_dvd_natCast.mpr this
    simpa using this
  rw [BitVec.toNat_and, e, Nat.and_two_pow_sub_one_eq_mod, IntKind.wrap_i64, c]
  have m : (((BitVec.ofInt 64 a).toNat % 2 ^ i : Nat) : Int) = a % ((2 ^ i : Nat) : Int) := by
    rw [Int.natCast_emod, e2]
    exact Int.emod_emod_of_dvd a dv
  have b1 : 0 ≤ a % ((2 ^ i : Nat) : Int) := Int.emod_nonneg _ (by omega)
  have b2 : a % ((2 ^ i : Nat) : Int) < ((2 ^ i : Nat) : Int) := Int.emod_lt_of_pos _ (by omega)
  rw [m]
  omega
theorem shift_diff (T s M : Nat) : (((T + s) * 4503599627370496 + M : Nat) : Int) - ((T * 4503599627370496 + M : Nat) : Int) = (s : Int) * 4503599627370496 := by omega
set_option maxHeartbeats 1000000 in
theorem RoundPower : gimballaw03_RoundPower.Pure := by
  intro h l x n wh wl wx wn
  obtain ⟨h0, h1⟩ := U.wf_u64 wh
  obtain ⟨l0, l1⟩ := U.wf_u64 wl
  obtain ⟨x0, x1⟩ := U.wf_i64 wx
  obtain ⟨n0, n1⟩ := U.wf_i64 wn
  obtain ⟨h, rfl⟩ := Int.eq_ofNat_of_zero_le h0
  obtain ⟨l, rfl⟩ := Int.eq_ofNat_of_zero_le l0
  refine ⟨15, ?_⟩
  obtain ⟨v, hv, eh, el⟩ : ∃ v : Nat, v < 340282366920938463463374607431768211456 ∧ h = v / 18446744073709551616 ∧ l = v % 18446744073709551616 := ⟨h * 18446744073709551616 + l, by omega, by omega, by omega⟩
  subst eh; subst el
  have a511 := and_mask_i64 9 (by decide) x0 x1
  have a255 := and_mask_i64 8 (by decide) n0 n1
  rw [show ((2 ^ 9 - 1 : Nat) : Int) = 511 from rfl, show (2 : Int) ^ 9 = 512 from rfl] at a511
  rw [show ((2 ^ 8 - 1 : Nat) : Int) = 255 from rfl, show (2 : Int) ^ 8 = 256 from rfl] at a255
  unfold gimballaw03_RoundPower.f
  rw [head_eq 10, U.bs, if_pos rfl, a511, a255]
  obtain ⟨p, hp, hp'⟩ : ∃ p : Int, x % 512 - 300 = p ∧ (-300 ≤ p ∧ p ≤ 211) := ⟨_, rfl, by omega, by omega⟩
  obtain ⟨s, hs, hs'⟩ : ∃ s : Nat, n % 256 = (s : Int) ∧ s < 256 := ⟨(n % 256).toNat, by omega, by omega⟩
  rw [hs, hp, U.wrap64_id (a := p) (by omega) (by omega), U.wrap64_id (a := p + s) (by omega) (by omega), round_eq 10 false v p false hv, round_eq 10 false v (p + s) false hv]
  rw [clampE_id (e := p) (by omega) (by omega), clampE_id (e := p + s) (by omega) (by omega)]
  simp only [U.bs]
  rw [wzero_eq v hv]
  by_cases h0 : v = 0
  · subst h0
    have z : ∀ e, rBits false 0 e false = 0 := fun e => by unfold rBits; rw [if_neg (by decide), if_pos rfl]; rfl
    have f0 : word_Finite.f 0 = some true := by rw [finite_eq _ (by decide) (by decide)]; rfl
    rw [z, z, f0, U.bs, if_pos rfl, U.bs, if_pos rfl]
    rfl
  · have lb := (U.blen_le 128 v).2 (by rw [p128]; exact hv)
    have lb0 : U.blen v ≠ 0 := fun c => h0 (U.blen_eq_zero.1 c)
    have d1 : rDrop (U.blen v) p = (U.blen v : Int) - 53 := rDrop_normal (by omega)
    have d2 : rDrop (U.blen v) (p + s) = (U.blen v : Int) - 53 := rDrop_normal (by omega)
    have m1 := rM_le v p false h0
    have m2 := rM_ge v p false h0 d1
    rw [d1] at m1 m2
    have q1 : rPat v p false = (p + ((U.blen v : Int) - 53) + 1074).toNat * 4503599627370496 + rM v ((U.blen v : Int) - 53) false := by unfold rPat; rw [d1]
    have q2 : rPat v (p + s) false = (p + s + ((U.blen v : Int) - 53) + 1074).toNat * 4503599627370496 + rM v ((U.blen v : Int) - 53) false := by unfold rPat; rw [d2]
    generalize hM : rM v ((U.blen v : Int) - 53) false = M at *
    have ni1 : ¬ 9218868437227405312 ≤ rPat v p false := by rw [q1]; omega
    have ni2 : ¬ 9218868437227405312 ≤ rPat v (p + s) false := by rw [q2]; omega
    have b1 : rBits false v p false = (rPat v p false : Int) := by unfold rBits; rw [if_neg (show ¬ false = true by decide), if_neg h0, if_neg ni1]; omega
    have b2 : rBits false v (p + s) false = (rPat v (p + s) false : Int) := by unfold rBits; rw [if_neg (show ¬ false = true by decide), if_neg h0, if_neg ni2]; omega
    have f12 : rFlags v p false = rFlags v (p + s) false := by
      unfold rFlags rFlag
      rw [if_neg h0, if_neg h0, if_neg ni1, if_neg ni2, d1, d2]
      have c1 : ¬ p + (U.blen v : Int) < -1021 := by omega
      have c2 : ¬ p + s + (U.blen v : Int) < -1021 := by omega
      rw [if_neg c1, if_neg c2]
    have fin : ∀ P : Nat, P < 9218868437227405312 → word_Finite.f (P : Int) = some true := by
      intro P hP
      have g0 : (0 : Int) ≤ (P : Int) := by omega
      have g1 : (P : Int) < 18446744073709551616 := by omega
      have g2 : (P : Int) / 4503599627370496 % 2048 < 2047 := by omega
      rw [finite_eq _ g0 g1, decide_eq_true g2]
    have f1 := fin (rPat v p false) (by omega)
    have f2 := fin (rPat v (p + s) false) (by omega)
    have last : (IntKind.u64.wrap ((rPat v (p + s) false : Int) - (rPat v p false : Int)) == IntKind.u64.wrap (IntKind.u64.wrap (s : Int) * 4503599627370496)) = true := by
      have tn : (p + s + ((U.blen v : Int) - 53) + 1074).toNat = (p + ((U.blen v : Int) - 53) + 1074).toNat + s := by omega
      have dd : (rPat v (p + s) false : Int) - (rPat v p false : Int) = (s : Int) * 4503599627370496 := by
        rw [q1, q2, tn]
        exact shift_diff _ _ _
      have sb : (0 : Int) ≤ (s : Int) * 4503599627370496 := by omega
      have sb2 : (s : Int) * 4503599627370496 < 18446744073709551616 := by omega
      have sb3 : (s : Int) < 18446744073709551616 := by omega
      have sb4 : (0 : Int) ≤ (s : Int) := by omega
      rw [beq_iff_eq, dd, U.wrap_u64_id sb4 sb3, U.wrap_u64_id sb sb2]
    rw [b1, b2, f1, f2]
    simp only [U.bs]
    rw [if_pos trivial, if_pos trivial, if_neg (by simpa using h0), if_pos f12, last]
end Go.Proofs.Ytlnpcbhbcmhbkaa.Pure
