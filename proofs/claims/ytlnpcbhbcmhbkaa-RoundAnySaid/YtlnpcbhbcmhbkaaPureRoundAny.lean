/- The law RoundAny of layer 3: whatever is rounded is the nearest number, and the flags are the reference's; no condition beyond the arguments' own ranges. -/
import Derived.Test.YtlnpcbhbcmhbkaaQRoundAnyx10
import Derived.Test.YtlnpcbhbcmhbkaaU
import Derived.Test.YtlnpcbhbcmhbkaaUB
import Derived.Test.YtlnpcbhbcmhbkaaVRoundAnyUX
set_option linter.unusedSimpArgs false
set_option linter.unusedVariables false
set_option exponentiation.threshold 5000
namespace Go.Proofs.Ytlnpcbhbcmhbkaa.Pure
open Go.RowKit Go.Proofs.Ytlnpcbhbcmhbkaa Go.Proofs.Ytlnpcbhbcmhbkaa.QRoundAny Go.Proofs.YtlnpcbhbcmhbkaaW.PrintWords Go.Proofs.YtlnpcbhbcmhbkaaW.PrintLast
theorem neg_eq (a : Int) (h : 0 ≤ a) (h' : a < 18446744073709551616) : word_Neg.f a = some (decide (9223372036854775808 ≤ a)) := by
  unfold word_Neg.f
  congr 1
  by_cases h1 : 9223372036854775808 ≤ a
  · have : a / 9223372036854775808 = 1 := by omega
    simp [h1, this]
  · have : a / 9223372036854775808 = 0 := by omega
    simp [h1, this]
theorem make_eq (s : Bool) (e f : Int) (h : -9223372036854775808 ≤ e) (h' : e < 9223372036854775808) (g : 0 ≤ f) (g' : f < 18446744073709551616) :
    word_Make.f s e f = some ((if s = true then 9223372036854775808 else 0) + e % 2048 * 4503599627370496 + f % 4503599627370496) := by
  unfold word_Make.f
  have e0 : bits .and .u64 (IntKind.u64.wrap e) 2047 = e % 2048 := by
    rw [U.wrap_u64, U.and_2047 (by omega) (by omega)]; omega
  have e1 : IntKind.u64.wrap (bits .and .u64 (IntKind.u64.wrap e) 2047 * 4503599627370496) = e % 2048 * 4503599627370496 := by
    rw [e0]; exact U.wrap_u64_id (by omega) (by omega)
  have e2 : bits .or .u64 (IntKind.u64.wrap (bits .and .u64 (IntKind.u64.wrap e) 2047 * 4503599627370496)) (bits .and .u64 f 4503599627370495) = e % 2048 * 4503599627370496 + f % 4503599627370496 := by
    rw [e1, U.and_52 g g']
    exact U.or_join 52 (by decide) (by omega) (by omega) (by omega) (by omega) (by omega)
  rw [e2]
  cases s
  · simp
  · simp only [if_true]
    rw [U.or_63 (by omega) (by omega)]
    congr 1; omega
theorem abs_eq (a : Int) (h : 0 ≤ a) (h' : a < 18446744073709551616) : word_Abs.f a = some (a % 9223372036854775808) := by
  unfold word_Abs.f
  rw [U.andNot_63 h h']
theorem shl_pow (x : Nat) (s : Nat) (hs : s ≤ 64) : shl .u64 (x : Int) (s : Int) = ((x * 2 ^ s % 18446744073709551616 : Nat) : Int) := by
  unfold shl
  rw [Int.toNat_natCast, Nat.min_eq_left (by show s ≤ 64; exact hs), U.wrap_u64]
  have : (x : Int) * 2 ^ s = ((x * 2 ^ s : Nat) : Int) := by simp
  rw [this]; omega
theorem shr_pow (x : Nat) (s : Nat) (hs : s ≤ 64) : shr .u64 (x : Int) (s : Int) = ((x / 2 ^ s : Nat) : Int) := by
  unfold shr
  rw [Int.toNat_natCast, Nat.min_eq_left (by show s ≤ 64; exact hs)]
  simp
theorem or_nat (i x y : Nat) (hi : i ≤ 64) (hx : x % 2 ^ i = 0) (hx1 : x < 18446744073709551616) (hy : y < 2 ^ i) : bits .or .u64 (x : Int) (y : Int) = ((x + y : Nat) : Int) := by
  have z : (x : Int) % 2 ^ i = 0 := by
    have c : ((2 : Int) ^ i) = ((2 ^ i : Nat) : Int) := by simp
    rw [c]; omega
  have lt : (y : Int) < 2 ^ i := by
    have c : ((2 : Int) ^ i) = ((2 ^ i : Nat) : Int) := by simp
    rw [c]; omega
  rw [U.or_join i hi (by omega) z (by omega) (by omega) lt]; omega
theorem pow_split (s : Nat) (hs : s ≤ 64) : 2 ^ s * 2 ^ (64 - s) = 18446744073709551616 := by
  rw [← Nat.pow_add]
  have : s + (64 - s) = 64 := by omega
  rw [this]
theorem p64 : (2 : Nat) ^ 64 = 18446744073709551616 := by decide
theorem p128 : (2 : Nat) ^ 128 = 18446744073709551616 * 18446744073709551616 := by decide
theorem mod_split (x P Q : Nat) (hPQ : P * Q = 18446744073709551616) : x * Q % 18446744073709551616 = x % P * Q := by rw [← hPQ, Nat.mul_mod_mul_right]
theorem ne_pair (a b c d : Int) : (!(a == c) || !(b == d)) = !(decide (a = c ∧ b = d)) := by
  by_cases h1 : a = c
  · by_cases h2 : b = d
    · simp [h1, h2]
    · simp [h1, h2]
  · simp [h1]
/-- The high word of h B + l times 2^s, and the low one. -/
theorem left_arith (h l P Q : Nat) (hPQ : P * Q = 18446744073709551616) (hP : 0 < P) (hQ : 0 < Q) (hl : l < 18446744073709551616) :
    ((h * 18446744073709551616 + l) * P / 18446744073709551616 % 18446744073709551616 = h * P % 18446744073709551616 + l / Q) ∧
    ((h * 18446744073709551616 + l) * P % 18446744073709551616 = l * P % 18446744073709551616) ∧ h * P % 18446744073709551616 % P = 0 ∧ l / Q < P ∧ h * P % 18446744073709551616 + l / Q < 18446744073709551616 := by
  have e1 : (h * 18446744073709551616 + l) * P = h * P * 18446744073709551616 + l * P := by rw [Nat.add_mul]; congr 1; rw [Nat.mul_assoc, Nat.mul_comm 18446744073709551616, ← Nat.mul_assoc]
  have d1 : l = Q * (l / Q) + l % Q := (Nat.div_add_mod l Q).symm
  have m1 : l % Q < Q := Nat.mod_lt _ hQ
  have e2 : l * P = 18446744073709551616 * (l / Q) + l % Q * P := by
    conv => lhs; rw [d1]
    rw [Nat.add_mul, ← hPQ, Nat.mul_comm Q, Nat.mul_assoc, Nat.mul_comm (l / Q), Nat.mul_comm Q P]
  have b2 : l % Q * P < 18446744073709551616 := by
    rw [← hPQ, Nat.mul_comm P Q]; exact Nat.mul_lt_mul_of_pos_right m1 hP
  have e3 : l / Q < P := by
    rw [Nat.div_lt_iff_lt_mul hQ]; omega
  have d2 : h * P % 18446744073709551616 = h % Q * P := by
    conv => lhs; rw [← hPQ, Nat.mul_comm h P, Nat.mul_mod_mul_left, Nat.mul_comm]
  have m2 : h % Q < Q := Nat.mod_lt _ hQ
  have b3 : h % Q * P + P ≤ 18446744073709551616 := by
    have : (h % Q + 1) * P ≤ Q * P := Nat.mul_le_mul_right P m2
    rw [Nat.add_mul, Nat.one_mul, Nat.mul_comm Q P, hPQ] at this
    exact this
  refine ⟨?_, ?_, ?_, e3, by omega⟩
  · rw [e1, e2]; omega
  · rw [e1]; omega
  · rw [d2, Nat.mul_mod_left]
theorem left_eq (v : Nat) (hv : v < 340282366920938463463374607431768211456) (n : Int) (hn : -9223372036854775808 ≤ n) (hn' : n < 9223372036854775808) :
    wide_Wide_Left.f ((v / 18446744073709551616 : Nat) : Int) ((v % 18446744073709551616 : Nat) : Int) n = some (((v * 2 ^ n.toNat / 18446744073709551616 % 18446744073709551616 : Nat) : Int), ((v * 2 ^ n.toNat % 18446744073709551616 : Nat) : Int)) := by
  unfold wide_Wide_Left.f
  by_cases h0 : n ≤ 0
  · have : n.toNat = 0 := by omega
    rw [if_pos h0, this, Nat.pow_zero, Nat.mul_one]
    congr 2; omega
  · rw [if_neg h0]
    obtain ⟨s, rfl⟩ := Int.eq_ofNat_of_zero_le (by omega : 0 ≤ n)
    rw [Int.toNat_natCast]
    by_cases h1 : (s : Int) ≥ 128
    · rw [if_pos h1]
      obtain ⟨t, rfl⟩ : ∃ t, s = t + 128 := ⟨s - 128, by omega⟩
      have e : v * 2 ^ (t + 128) = v * 2 ^ t * 18446744073709551616 * 18446744073709551616 := by
        rw [Nat.pow_add, p128, ← Nat.mul_assoc, ← Nat.mul_assoc]
      rw [e]
      generalize v * 2 ^ t = z
      have z1 : z * 18446744073709551616 * 18446744073709551616 / 18446744073709551616 % 18446744073709551616 = 0 := by omega
      have z2 : z * 18446744073709551616 * 18446744073709551616 % 18446744073709551616 = 0 := by omega
      rw [z1, z2]; rfl
    · rw [if_neg h1]
      by_cases h2 : (s : Int) ≥ 64
      · obtain ⟨t, rfl⟩ : ∃ t, s = t + 64 := ⟨s - 64, by omega⟩
        have hw : wrap64 (((t + 64 : Nat) : Int) - 64) = (t : Int) := by rw [U.wrap64_id (by omega) (by omega)]; omega
        rw [if_pos h2, hw, if_pos (by omega), shl_pow _ _ (by omega)]
        have e : v * 2 ^ (t + 64) = v * 2 ^ t * 18446744073709551616 := by
          rw [Nat.pow_add, p64, ← Nat.mul_assoc]
        have e2 : v % 18446744073709551616 * 2 ^ t % 18446744073709551616 = v * 2 ^ t % 18446744073709551616 := Nat.mod_mul_mod _ _ _
        rw [e, e2]
        generalize v * 2 ^ t = z
        have z1 : z * 18446744073709551616 / 18446744073709551616 % 18446744073709551616 = z % 18446744073709551616 := by omega
        have z2 : z * 18446744073709551616 % 18446744073709551616 = 0 := by omega
        rw [z1, z2]; rfl
      · have hw : wrap64 (64 - (s : Int)) = ((64 - s : Nat) : Int) := by rw [U.wrap64_id (by omega) (by omega)]; omega
        obtain ⟨a1, a2, a3, a4, a5⟩ := left_arith (v / 18446744073709551616) (v % 18446744073709551616) (2 ^ s) (2 ^ (64 - s)) (pow_split s (by omega)) (Nat.two_pow_pos _) (Nat.two_pow_pos _) (by omega)
        rw [if_neg h2, if_pos (by omega), hw, if_pos (by omega), shl_pow _ _ (by omega), shl_pow _ _ (by omega), shr_pow _ _ (by omega),
          or_nat s _ _ (by omega) a3 (by omega) a4]
        have ev : v / 18446744073709551616 * 18446744073709551616 + v % 18446744073709551616 = v := by omega
        rw [ev] at a1 a2
        rw [a1, a2]
theorem wzero_eq (v : Nat) (hv : v < 340282366920938463463374607431768211456) : wide_Wide_Zero.f ((v / 18446744073709551616 : Nat) : Int) ((v % 18446744073709551616 : Nat) : Int) = some (decide (v = 0)) := by
  unfold wide_Wide_Zero.f
  rw [u64_or_nat _ _ (by omega) (by omega)]
  congr 1
  rw [Bool.eq_iff_iff]
  simp only [beq_iff_eq, decide_eq_true_eq]
  constructor
  · intro h
    have h1 : v / 18446744073709551616 ||| v % 18446744073709551616 = 0 := by omega
    have := Nat.or_eq_zero_iff.mp h1
    omega
  · rintro rfl; decide
theorem right_eq (v : Nat) (hv : v < 340282366920938463463374607431768211456) (n : Int) (hn : -9223372036854775808 ≤ n) (hn' : n < 9223372036854775808) :
    wide_Wide_Right.f ((v / 18446744073709551616 : Nat) : Int) ((v % 18446744073709551616 : Nat) : Int) n = some (((v / 2 ^ n.toNat / 18446744073709551616 : Nat) : Int), ((v / 2 ^ n.toNat % 18446744073709551616 : Nat) : Int), decide (v % 2 ^ n.toNat ≠ 0)) := by
  unfold wide_Wide_Right.f
  by_cases h0 : n ≤ 0
  · have : n.toNat = 0 := by omega
    rw [if_pos h0, this, Nat.pow_zero, Nat.div_one, Nat.mod_one]
    simp
  · rw [if_neg h0]
    obtain ⟨s, rfl⟩ := Int.eq_ofNat_of_zero_le (by omega : 0 ≤ n)
    have hz := left_eq 0 (by decide) (s : Int) hn hn'
    rw [Int.toNat_natCast] at hz ⊢
    have hp := Nat.two_pow_pos s
    by_cases h1 : (s : Int) ≥ 128
    · have big : v < 2 ^ s := Nat.lt_of_lt_of_le hv (by
        have : 2 ^ 128 ≤ 2 ^ s := Nat.pow_le_pow_right (by decide) (by omega)
        exact this)
      rw [Nat.zero_div, Nat.zero_mod, Nat.zero_mul, Nat.zero_div, Nat.zero_mod, Int.natCast_zero] at hz
      rw [if_pos h1, hz, U.bs, Nat.div_eq_of_lt big, Nat.mod_eq_of_lt big, wzero_eq v hv, U.bs]
      by_cases hv0 : v = 0
      · subst hv0; decide
      · have : (!((0 : Int) == ((v / 18446744073709551616 : Nat) : Int)) || !((0 : Int) == ((v % 18446744073709551616 : Nat) : Int))) = true := by
          simp; omega
        rw [if_pos this]
        simp [hv0]
    · have q : v / 2 ^ s * 2 ^ s ≤ v := Nat.div_mul_le_self v (2 ^ s)
      have dm := Nat.div_add_mod v (2 ^ s)
      rw [Nat.mul_comm] at dm
      have hvs : v / 2 ^ s ≤ v := Nat.div_le_self v _
      have l := left_eq (v / 2 ^ s) (by omega) (s : Int) hn hn'
      rw [Int.toNat_natCast] at l
      have key : ∀ x y : Int, x = ((v / 2 ^ s / 18446744073709551616 : Nat) : Int) → y = ((v / 2 ^ s % 18446744073709551616 : Nat) : Int) →
          ((wide_Wide_Left.f x y (s : Int)).bind fun bt => if (!(bt.1 == ((v / 18446744073709551616 : Nat) : Int)) || !(bt.2 == ((v % 18446744073709551616 : Nat) : Int))) = true then some (x, y, true) else some (x, y, false)) = some (((v / 2 ^ s / 18446744073709551616 : Nat) : Int), ((v / 2 ^ s % 18446744073709551616 : Nat) : Int), decide (v % 2 ^ s ≠ 0)) := by
        rintro x y rfl rfl
        rw [l, U.bs]
        simp only
        rw [ne_pair]
        by_cases hr : v % 2 ^ s = 0
        · have : v / 2 ^ s * 2 ^ s = v := by omega
          have c : ((v / 2 ^ s * 2 ^ s / 18446744073709551616 % 18446744073709551616 : Nat) : Int) = ((v / 18446744073709551616 : Nat) : Int) ∧ ((v / 2 ^ s * 2 ^ s % 18446744073709551616 : Nat) : Int) = ((v % 18446744073709551616 : Nat) : Int) := by rw [this]; omega
          rw [decide_eq_true c, hr]; rfl
        · have c : ¬ (((v / 2 ^ s * 2 ^ s / 18446744073709551616 % 18446744073709551616 : Nat) : Int) = ((v / 18446744073709551616 : Nat) : Int) ∧ ((v / 2 ^ s * 2 ^ s % 18446744073709551616 : Nat) : Int) = ((v % 18446744073709551616 : Nat) : Int)) := by
            generalize v / 2 ^ s * 2 ^ s = z at *
            generalize v % 2 ^ s = y at *
            omega
          rw [decide_eq_false c, decide_eq_true (show v % 2 ^ s ≠ 0 from hr)]; rfl
      rw [if_neg h1]
      by_cases h2 : (s : Int) ≥ 64
      · obtain ⟨t, rfl⟩ : ∃ t, s = t + 64 := ⟨s - 64, by omega⟩
        have hw : wrap64 (((t + 64 : Nat) : Int) - 64) = (t : Int) := by rw [U.wrap64_id (by omega) (by omega)]; omega
        have e : v / 2 ^ (t + 64) = v / 18446744073709551616 / 2 ^ t := by
          rw [Nat.pow_add, p64, Nat.mul_comm, ← Nat.div_div_eq_div_mul]
        have lt : v / 18446744073709551616 / 2 ^ t < 18446744073709551616 := by
          have := Nat.div_le_self (v / 18446744073709551616) (2 ^ t); omega
        rw [if_pos h2, hw, if_pos (by omega), shr_pow _ _ (by omega)]
        refine key 0 _ ?_ ?_
        · rw [e]; generalize v / 18446744073709551616 / 2 ^ t = z at lt; omega
        · rw [e]; generalize v / 18446744073709551616 / 2 ^ t = z at lt; omega
      · have hw : wrap64 (64 - (s : Int)) = ((64 - s : Nat) : Int) := by rw [U.wrap64_id (by omega) (by omega)]; omega
        have hPQ := pow_split s (by omega)
        have hQ := Nat.two_pow_pos (64 - s)
        rw [if_neg h2, if_pos (by omega), hw, if_pos (by omega), shl_pow _ _ (by omega), shr_pow _ _ (by omega), shr_pow _ _ (by omega)]
        have d2 := mod_split (v / 18446744073709551616) (2 ^ s) (2 ^ (64 - s)) hPQ
        have lq : v % 18446744073709551616 / 2 ^ s < 2 ^ (64 - s) := by
          rw [Nat.div_lt_iff_lt_mul hp, Nat.mul_comm, hPQ]; exact Nat.mod_lt _ (by decide)
        have ms : v / 18446744073709551616 % 2 ^ s < 2 ^ s := Nat.mod_lt _ hp
        have b3 : v / 18446744073709551616 % 2 ^ s * 2 ^ (64 - s) + 2 ^ (64 - s) ≤ 18446744073709551616 := by
          have : (v / 18446744073709551616 % 2 ^ s + 1) * 2 ^ (64 - s) ≤ 2 ^ s * 2 ^ (64 - s) := Nat.mul_le_mul_right _ ms
          rw [Nat.add_mul, Nat.one_mul, hPQ] at this
          exact this
        rw [d2, or_nat (64 - s) _ _ (by omega) (Nat.mul_mod_left _ _) (by omega) lq]
        have ev : v = v / 18446744073709551616 * 18446744073709551616 + v % 18446744073709551616 := by omega
        have e : v / 2 ^ s = v / 18446744073709551616 / 2 ^ s * 18446744073709551616 + (v / 18446744073709551616 % 2 ^ s * 2 ^ (64 - s) + v % 18446744073709551616 / 2 ^ s) := by
          have dh := Nat.div_add_mod (v / 18446744073709551616) (2 ^ s)
          have e1 : v = 2 ^ s * (v / 18446744073709551616 / 2 ^ s * 18446744073709551616 + v / 18446744073709551616 % 2 ^ s * 2 ^ (64 - s)) + v % 18446744073709551616 := by
            conv => lhs; rw [ev]
            congr 1
            conv => lhs; rw [← dh]
            rw [Nat.add_mul, Nat.mul_add, Nat.mul_assoc]
            congr 1
            rw [← Nat.mul_assoc, Nat.mul_comm (2 ^ s) (v / 18446744073709551616 % 2 ^ s), Nat.mul_assoc, hPQ]
          conv => lhs; rw [e1]
          rw [Nat.mul_add_div hp]
          omega
        have b4 : v / 18446744073709551616 % 2 ^ s * 2 ^ (64 - s) + v % 18446744073709551616 / 2 ^ s < 18446744073709551616 := by omega
        refine key _ _ ?_ ?_
        · rw [e]
          generalize v / 18446744073709551616 % 2 ^ s * 2 ^ (64 - s) + v % 18446744073709551616 / 2 ^ s = y at b4
          generalize v / 18446744073709551616 / 2 ^ s = x
          omega
        · rw [e]
          generalize v / 18446744073709551616 % 2 ^ s * 2 ^ (64 - s) + v % 18446744073709551616 / 2 ^ s = y at b4
          generalize v / 18446744073709551616 / 2 ^ s = x
          omega
theorem wadd_eq (v u : Nat) (hv : v < 340282366920938463463374607431768211456) (hu : u < 340282366920938463463374607431768211456) :
    wide_Wide_Add.f ((v / 18446744073709551616 : Nat) : Int) ((v % 18446744073709551616 : Nat) : Int) ((u / 18446744073709551616 : Nat) : Int) ((u % 18446744073709551616 : Nat) : Int) =
      some ((((v + u) % 340282366920938463463374607431768211456 / 18446744073709551616 : Nat) : Int), (((v + u) % 340282366920938463463374607431768211456 % 18446744073709551616 : Nat) : Int), decide (340282366920938463463374607431768211456 ≤ v + u)) := by
  unfold wide_Wide_Add.f bits_Add64.f UX.addF
  rw [if_pos (by omega), U.bs, if_pos (by omega), U.bs]
  congr 2
  · omega
  · congr 1
    · omega
    · rw [Bool.eq_iff_iff]; simp only [beq_iff_eq, decide_eq_true_eq]; omega
theorem bitLen_blen (n : Nat) : bitLen n = U.blen n := by
  obtain ⟨h1, h2⟩ := bitLen_spec n
  have a := (U.blen_le (bitLen n) n).2 h1
  by_cases h : n = 0
  · subst h; rw [U.blen_zero]; rfl
  · have b := (U.blen_le (bitLen n - 1) n)
    have c := h2 h
    have d : bitLen n ≠ 0 := by
      intro e; rw [e] at h1; omega
    omega
set_option maxRecDepth 100000 in
theorem bt_len8 (i : Nat) (h : i < 256) : bt (⟨#[0, 1, 2, 2, 3, 3, 3, 3, 4, 4, 4, 4, 4, 4, 4, 4, 5, 5, 5, 5, 5, 5, 5, 5, 5, 5, 5, 5, 5, 5, 5, 5, 6, 6, 6, 6, 6, 6, 6, 6, 6, 6, 6, 6, 6, 6, 6, 6, 6, 6, 6, 6, 6, 6, 6, 6, 6, 6, 6, 6, 6, 6, 6, 6, 7, 7, 7, 7, 7, 7, 7, 7, 7, 7, 7, 7, 7, 7, 7, 7, 7, 7, 7, 7, 7, 7, 7, 7, 7, 7, 7, 7, 7, 7, 7, 7, 7, 7, 7, 7, 7, 7, 7, 7, 7, 7, 7, 7, 7, 7, 7, 7, 7, 7, 7, 7, 7, 7, 7, 7, 7, 7, 7, 7, 7, 7, 7, 7, 8, 8, 8, 8, 8, 8, 8, 8, 8, 8, 8, 8, 8, 8, 8, 8, 8, 8, 8, 8, 8, 8, 8, 8, 8, 8, 8, 8, 8, 8, 8, 8, 8, 8, 8, 8, 8, 8, 8, 8, 8, 8, 8, 8, 8, 8, 8, 8, 8, 8, 8, 8, 8, 8, 8, 8, 8, 8, 8, 8, 8, 8, 8, 8, 8, 8, 8, 8, 8, 8, 8, 8, 8, 8, 8, 8, 8, 8, 8, 8, 8, 8, 8, 8, 8, 8, 8, 8, 8, 8, 8, 8, 8, 8, 8, 8, 8, 8, 8, 8, 8, 8, 8, 8, 8, 8, 8, 8, 8, 8, 8, 8, 8, 8, 8, 8, 8, 8, 8, 8, 8, 8, 8, 8, 8, 8, 8, 8]⟩ : ByteArray) (i : Int) = ((U.blen i : Nat) : Int) := by
  unfold bt
  have hs : (i : Int).toNat < ((⟨#[0, 1, 2, 2, 3, 3, 3, 3, 4, 4, 4, 4, 4, 4, 4, 4, 5, 5, 5, 5, 5, 5, 5, 5, 5, 5, 5, 5, 5, 5, 5, 5, 6, 6, 6, 6, 6, 6, 6, 6, 6, 6, 6, 6, 6, 6, 6, 6, 6, 6, 6, 6, 6, 6, 6, 6, 6, 6, 6, 6, 6, 6, 6, 6, 7, 7, 7, 7, 7, 7, 7, 7, 7, 7, 7, 7, 7, 7, 7, 7, 7, 7, 7, 7, 7, 7, 7, 7, 7, 7, 7, 7, 7, 7, 7, 7, 7, 7, 7, 7, 7, 7, 7, 7, 7, 7, 7, 7, 7, 7, 7, 7, 7, 7, 7, 7, 7, 7, 7, 7, 7, 7, 7, 7, 7, 7, 7, 7, 8, 8, 8, 8, 8, 8, 8, 8, 8, 8, 8, 8, 8, 8, 8, 8, 8, 8, 8, 8, 8, 8, 8, 8, 8, 8, 8, 8, 8, 8, 8, 8, 8, 8, 8, 8, 8, 8, 8, 8, 8, 8, 8, 8, 8, 8, 8, 8, 8, 8, 8, 8, 8, 8, 8, 8, 8, 8, 8, 8, 8, 8, 8, 8, 8, 8, 8, 8, 8, 8, 8, 8, 8, 8, 8, 8, 8, 8, 8, 8, 8, 8, 8, 8, 8, 8, 8, 8, 8, 8, 8, 8, 8, 8, 8, 8, 8, 8, 8, 8, 8, 8, 8, 8, 8, 8, 8, 8, 8, 8, 8, 8, 8, 8, 8, 8, 8, 8, 8, 8, 8, 8, 8, 8, 8, 8, 8, 8]⟩ : ByteArray)).size := by rw [Int.toNat_natCast]; exact h
  rw [dif_pos hs]
  have := len8tab_get (i : Int).toNat hs
  rw [this, Int.toNat_natCast, bitLen_blen]
theorem blen_shift (x b : Nat) (h : x / 2 ^ b ≠ 0) : U.blen x = b + U.blen (x / 2 ^ b) := by
  rw [← bitLen_blen, ← bitLen_blen]; exact bitLen_shift x b h
theorem len64_j0 (k x y : Nat) (hx : x < 4294967296) (hy : y ≤ 32) : bits_Len64.j0 (k + 1) (x : Int) (y : Int) = some ((y + U.blen x : Nat) : Int) := by
  have w1 : wrap64 ((y : Int) + 16) = (y : Int) + 16 := U.wrap64_id (by omega) (by omega)
  have w2 : wrap64 ((y : Int) + 8) = (y : Int) + 8 := U.wrap64_id (by omega) (by omega)
  have w3 : wrap64 ((y : Int) + 16 + 8) = (y : Int) + 16 + 8 := U.wrap64_id (by omega) (by omega)
  have small : ∀ i : Nat, i < 256 → U.blen i ≤ 8 := fun i hi => (U.blen_le 8 i).2 hi
  rw [bits_Len64.j0]
  by_cases h1 : (x : Int) ≥ 65536
  · rw [if_pos h1]
    have e1 : (x : Int) / 65536 = ((x / 65536 : Nat) : Int) := by omega
    have s1 := blen_shift x 16 (by show x / 65536 ≠ 0; omega)
    rw [show (2 : Nat) ^ 16 = 65536 from rfl] at s1
    rw [e1]
    by_cases h2 : ((x / 65536 : Nat) : Int) ≥ 256
    · have s2 := blen_shift (x / 65536) 8 (by show x / 65536 / 256 ≠ 0; omega)
      rw [show (2 : Nat) ^ 8 = 256 from rfl] at s2
      have e2 : ((x / 65536 : Nat) : Int) / 256 % 256 = ((x / 65536 / 256 : Nat) : Int) := by omega
      have b := small (x / 65536 / 256) (by omega)
      rw [if_pos h2, e2, if_pos (by omega), if_pos (by omega), bt_len8 _ (by omega), w1, w3]
      rw [U.wrap64_id (a := ((U.blen (x / 65536 / 256) : Nat) : Int)) (by omega) (by omega), U.wrap64_id (by omega) (by omega)]
      exact congrArg some (by omega)
    · have e2 : ((x / 65536 : Nat) : Int) % 256 = ((x / 65536 : Nat) : Int) := by omega
      have b := small (x / 65536) (by omega)
      rw [if_neg h2, e2, if_pos (by omega), if_pos (by omega), bt_len8 _ (by omega), w1]
      rw [U.wrap64_id (a := ((U.blen (x / 65536) : Nat) : Int)) (by omega) (by omega), U.wrap64_id (by omega) (by omega)]
      exact congrArg some (by omega)
  · rw [if_neg h1]
    by_cases h2 : (x : Int) ≥ 256
    · have s2 := blen_shift x 8 (by show x / 256 ≠ 0; omega)
      rw [show (2 : Nat) ^ 8 = 256 from rfl] at s2
      have e2 : (x : Int) / 256 % 256 = ((x / 256 : Nat) : Int) := by omega
      have b := small (x / 256) (by omega)
      rw [if_pos h2, e2, if_pos (by omega), if_pos (by omega), bt_len8 _ (by omega), w2]
      rw [U.wrap64_id (a := ((U.blen (x / 256) : Nat) : Int)) (by omega) (by omega), U.wrap64_id (by omega) (by omega)]
      exact congrArg some (by omega)
    · have e2 : (x : Int) % 256 = ((x : Nat) : Int) := by omega
      have b := small x (by omega)
      rw [if_neg h2, e2, if_pos (by omega), if_pos (by omega), bt_len8 _ (by omega)]
      rw [U.wrap64_id (a := ((U.blen x : Nat) : Int)) (by omega) (by omega), U.wrap64_id (by omega) (by omega)]
      exact congrArg some (by omega)
theorem len64_eq (k x : Nat) (hx : x < 18446744073709551616) : bits_Len64.f (k + 1) (x : Int) = some ((U.blen x : Nat) : Int) := by
  unfold bits_Len64.f
  by_cases h : (x : Int) ≥ 4294967296
  · have e : (x : Int) / 4294967296 = ((x / 4294967296 : Nat) : Int) := by omega
    have s := blen_shift x 32 (by show x / 4294967296 ≠ 0; omega)
    rw [show (2 : Nat) ^ 32 = 4294967296 from rfl] at s
    have j := len64_j0 k (x / 4294967296) 32 (by omega) (by omega)
    rw [show ((32 : Nat) : Int) = 32 from rfl] at j
    rw [if_pos h, e, j, s]
  · have j := len64_j0 k x 0 (by omega) (by omega)
    rw [Nat.zero_add] at j
    rw [if_neg h]; exact j
theorem wlen_eq (k v : Nat) (hv : v < 340282366920938463463374607431768211456) : wide_Wide_Len.f (k + 1) ((v / 18446744073709551616 : Nat) : Int) ((v % 18446744073709551616 : Nat) : Int) = some ((U.blen v : Nat) : Int) := by
  unfold wide_Wide_Len.f
  by_cases h : ((v / 18446744073709551616 : Nat) : Int) = 0
  · rw [if_pos h, len64_eq k _ (by omega), U.bs]
    have : v % 18446744073709551616 = v := by omega
    rw [this]
  · have s := blen_shift v 64 (by rw [p64]; omega)
    rw [p64] at s
    have b := (U.blen_le 64 (v / 18446744073709551616)).2 (by omega)
    rw [if_neg h, len64_eq k _ (by omega), U.bs, U.wrap64_id (by omega) (by omega), s]
    rfl
theorem rsplit_eq (v d : Nat) (hv : v < 340282366920938463463374607431768211456) (hd : 0 < d) (hd2 : d < 1000000) (hv0 : v ≠ 0) :
    round_split.f ((v / 18446744073709551616 : Nat) : Int) ((v % 18446744073709551616 : Nat) : Int) (d : Int) (decide (v % 2 ^ d ≠ 0)) = some (decide (v / 2 ^ (d - 1) % 2 = 1), decide (v % 2 ^ (d - 1) ≠ 0)) := by
  unfold round_split.f
  by_cases h : (d : Int) > 128
  · have big : ∀ t, 128 ≤ t → v < 2 ^ t := fun t ht => Nat.lt_of_lt_of_le hv (by
      have : 2 ^ 128 ≤ 2 ^ t := Nat.pow_le_pow_right (by decide) ht
      rw [p128] at this; exact this)
    rw [if_pos h, Nat.mod_eq_of_lt (big d (by omega)), Nat.mod_eq_of_lt (big (d - 1) (by omega)), Nat.div_eq_of_lt (big (d - 1) (by omega))]
    simp
  · have w : wrap64 ((d : Int) - 1) = ((d - 1 : Nat) : Int) := by rw [U.wrap64_id (by omega) (by omega)]; omega
    have r := right_eq v hv ((d - 1 : Nat) : Int) (by omega) (by omega)
    rw [Int.toNat_natCast] at r
    rw [if_neg h, w, r, U.bs]
    simp only
    rw [U.and_1 (by omega) (by omega)]
    congr 2
    rw [Bool.eq_iff_iff]
    simp only [beq_iff_eq, decide_eq_true_eq]
    generalize v / 2 ^ (d - 1) = z
    omega
/-- How many bits fall out. -/
def rDrop (L e : Int) : Int := if e + (L - 53) < -1074 then -1074 - e else L - 53
/-- Half of the last place falls out, or more is told: is one added? -/
def rUp (v d : Nat) (more : Bool) : Bool := decide (v / 2 ^ (d - 1) % 2 = 1) && (decide (v % 2 ^ (d - 1) ≠ 0) || more || decide (v / 2 ^ d % 2 = 1))
def rM (v : Nat) (drop : Int) (more : Bool) : Nat :=
  if 0 < drop then v / 2 ^ drop.toNat + (if rUp v drop.toNat more then 1 else 0) else v * 2 ^ (-drop).toNat
def rLost (v : Nat) (drop : Int) (more : Bool) : Bool := (decide (0 < drop) && decide (v % 2 ^ drop.toNat ≠ 0)) || more
/-- The pattern, without its sign, before infinity is looked at. -/
def rPat (v : Nat) (e : Int) (more : Bool) : Nat := (e + rDrop (U.blen v) e + 1074).toNat * 4503599627370496 + rM v (rDrop (U.blen v) e) more
def clampE (e : Int) : Int := mx (-100000) (mn e 100000)
def rFlag (v : Nat) (e : Int) (more : Bool) : Int :=
  (if rLost v (rDrop (U.blen v) e) more then (if e + (U.blen v : Int) < -1021 then 3 else 1) else 0)
def rBits (neg : Bool) (v : Nat) (e : Int) (more : Bool) : Int :=
  (if neg = true then 9223372036854775808 else 0) + (if v = 0 then 0 else if 9218868437227405312 ≤ rPat v e more then 9218868437227405312 else (rPat v e more : Int))
def rFlags (v : Nat) (e : Int) (more : Bool) : Int :=
  if v = 0 then (if more then 3 else 0) else if 9218868437227405312 ≤ rPat v e more then Go.bits .or .u8 (Go.bits .or .u8 (rFlag v e more) 4) 1 else rFlag v e more
theorem rDrop_ge (L e : Int) : -1074 ≤ e + rDrop L e := by unfold rDrop; split <;> omega
theorem rM_le (v : Nat) (e : Int) (more : Bool) (hv : v ≠ 0) : rM v (rDrop (U.blen v) e) more ≤ 9007199254740992 := by
  have hl := U.lt_blen v
  unfold rM
  by_cases h : 0 < rDrop (U.blen v) e
  · rw [if_pos h]
    have : v / 2 ^ (rDrop (U.blen v) e).toNat < 9007199254740992 := by
      rw [Nat.div_lt_iff_lt_mul (Nat.two_pow_pos _)]
      refine Nat.lt_of_lt_of_le hl ?_
      have e1 : 9007199254740992 = 2 ^ 53 := by decide
      rw [e1, ← Nat.pow_add]
      refine Nat.pow_le_pow_right (by decide) ?_
      unfold rDrop at h ⊢; split at h <;> rename_i c
      · rw [if_pos c]; omega
      · rw [if_neg c]; omega
    split <;> omega
  · rw [if_neg h]
    have hb : U.blen v ≠ 0 := fun c => hv (U.blen_eq_zero.1 c)
    have : v * 2 ^ (-rDrop (U.blen v) e).toNat < 2 ^ (U.blen v) * 2 ^ (-rDrop (U.blen v) e).toNat := Nat.mul_lt_mul_of_pos_right hl (Nat.two_pow_pos _)
    rw [← Nat.pow_add] at this
    have : 2 ^ (U.blen v + (-rDrop (U.blen v) e).toNat) ≤ 2 ^ 53 := by
      refine Nat.pow_le_pow_right (by decide) ?_
      unfold rDrop at h ⊢; split at h <;> rename_i c
      · rw [if_pos c]; omega
      · rw [if_neg c]; omega
    have e1 : 2 ^ 53 = 9007199254740992 := by decide
    omega
theorem rM_ge (v : Nat) (e : Int) (more : Bool) (hv : v ≠ 0) (hd : rDrop (U.blen v) e = (U.blen v : Int) - 53) : 4503599627370496 ≤ rM v (rDrop (U.blen v) e) more := by
  have hl := U.blen_ge v hv
  have hb : U.blen v ≠ 0 := fun c => hv (U.blen_eq_zero.1 c)
  have e1 : 4503599627370496 = 2 ^ 52 := by decide
  unfold rM
  rw [hd]
  by_cases h : 0 < (U.blen v : Int) - 53
  · rw [if_pos h]
    have : 4503599627370496 ≤ v / 2 ^ ((U.blen v : Int) - 53).toNat := by
      rw [Nat.le_div_iff_mul_le (Nat.two_pow_pos _), e1, ← Nat.pow_add]
      refine Nat.le_trans (Nat.pow_le_pow_right (by decide) ?_) hl
      omega
    omega
  · rw [if_neg h]
    have : 2 ^ (U.blen v - 1) * 2 ^ (-((U.blen v : Int) - 53)).toNat ≤ v * 2 ^ (-((U.blen v : Int) - 53)).toNat := Nat.mul_le_mul_right _ hl
    rw [← Nat.pow_add] at this
    refine Nat.le_trans ?_ this
    rw [e1]
    exact Nat.pow_le_pow_right (by decide) (by omega)
theorem clampE_bd (e : Int) : -100000 ≤ clampE e ∧ clampE e ≤ 100000 := by
  unfold clampE mx mn; repeat (any_goals split)
  all_goals omega
/-- What follows the rounding: the pattern and the flags. -/
theorem round_j2 (k : Nat) (neg : Bool) (e drop : Int) (tiny lost : Bool) (hi : Int) (m : Nat) (he : -200000 ≤ e) (he' : e ≤ 200000) (hd : -200000 ≤ drop) (hd' : drop ≤ 200000)
    (ht : -1074 ≤ e + drop) (hm : m ≤ 9007199254740992) (hm2 : m < 4503599627370496 → e + drop = -1074) :
    round_Round.j2 (k + 3) neg e drop tiny lost hi (m : Int) =
      some ((if neg = true then 9223372036854775808 else 0) + (if 9218868437227405312 ≤ (e + drop + 1074).toNat * 4503599627370496 + m then 9218868437227405312 else (((e + drop + 1074).toNat * 4503599627370496 + m : Nat) : Int)),
        if 9218868437227405312 ≤ (e + drop + 1074).toNat * 4503599627370496 + m then Go.bits .or .u8 (Go.bits .or .u8 (if lost then (if tiny then 3 else 1) else 0) 4) 1 else (if lost then (if tiny then 3 else 1) else 0)) := by
  have w1 : wrap64 (e + drop) = e + drop := U.wrap64_id (by omega) (by omega)
  have w2 : wrap64 (e + drop + 1) = e + drop + 1 := U.wrap64_id (by omega) (by omega)
  have b1 : Go.bits .or .u8 (Go.bits .or .u8 0 1) 2 = 3 := by decide
  have b2 : Go.bits .or .u8 0 1 = 1 := by decide
  have j4 : ∀ (x m' f : Int) (P : Nat), -300000 ≤ x → x ≤ 500000 → 0 ≤ m' → m' < 9007199254740992 → (m' < 4503599627370496 → (P : Int) = m' ∧ m' < 9218868437227405312) → (4503599627370496 ≤ m' → (P : Int) = (x + 1074) * 4503599627370496 + m' ∧ -1074 ≤ x) →
      round_Round.j4 (k + 1) neg x m' f = some ((if neg = true then 9223372036854775808 else 0) + (if 9218868437227405312 ≤ P then 9218868437227405312 else (P : Int)), if 9218868437227405312 ≤ P then Go.bits .or .u8 (Go.bits .or .u8 f 4) 1 else f) := by
    intro x m' f P x1 x2 m1 m2 p1 p2
    have w3 : wrap64 (x + 1075) = x + 1075 := U.wrap64_id (by omega) (by omega)
    rw [round_Round.j4, w3]
    by_cases c : m' < 4503599627370496
    · have q := p1 c
      have np : ¬ 9218868437227405312 ≤ P := by omega
      rw [if_pos c, make_eq _ _ _ (by omega) (by omega) (by omega) (by omega), U.bs]
      simp only [if_neg np]
      generalize (if neg = true then (9223372036854775808 : Int) else 0) = s
      have : s + 0 % 2048 * 4503599627370496 + m' % 4503599627370496 = s + (P : Int) := by omega
      rw [this]
    · have q := p2 (by omega)
      rw [if_neg c]
      by_cases c2 : x + 1075 ≥ 2047
      · have np : 9218868437227405312 ≤ P := by omega
        rw [if_pos c2, make_eq _ _ _ (by omega) (by omega) (by omega) (by omega), U.bs]
        simp only [if_pos np]
        generalize (if neg = true then (9223372036854775808 : Int) else 0) = s
        have : s + 2047 % 2048 * 4503599627370496 + 0 % 4503599627370496 = s + 9218868437227405312 := by omega
        rw [this]
      · have np : ¬ 9218868437227405312 ≤ P := by omega
        rw [if_neg c2, make_eq _ _ _ (by omega) (by omega) (by omega) (by omega), U.bs]
        simp only [if_neg np]
        generalize (if neg = true then (9223372036854775808 : Int) else 0) = s
        have : s + (x + 1075) % 2048 * 4503599627370496 + m' % 4503599627370496 = s + (P : Int) := by omega
        rw [this]
  have j3 : ∀ (x m' : Int) (P : Nat), -300000 ≤ x → x ≤ 500000 → 0 ≤ m' → m' < 9007199254740992 → (m' < 4503599627370496 → (P : Int) = m' ∧ m' < 9218868437227405312) → (4503599627370496 ≤ m' → (P : Int) = (x + 1074) * 4503599627370496 + m' ∧ -1074 ≤ x) →
      round_Round.j3 (k + 2) neg x tiny lost m' = some ((if neg = true then 9223372036854775808 else 0) + (if 9218868437227405312 ≤ P then 9218868437227405312 else (P : Int)), if 9218868437227405312 ≤ P then Go.bits .or .u8 (Go.bits .or .u8 (if lost then (if tiny then 3 else 1) else 0) 4) 1 else (if lost then (if tiny then 3 else 1) else 0)) := by
    intro x m' P x1 x2 m1 m2 p1 p2
    rw [round_Round.j3, b1, b2]
    cases lost with
    | true =>
      cases tiny with
      | true => exact j4 x m' 3 P x1 x2 m1 m2 p1 p2
      | false => exact j4 x m' 1 P x1 x2 m1 m2 p1 p2
    | false => exact j4 x m' 0 P x1 x2 m1 m2 p1 p2
  rw [round_Round.j2, w1, w2]
  by_cases c : (m : Int) = 9007199254740992
  · rw [if_pos c]
    exact j3 _ _ _ (by omega) (by omega) (by omega) (by omega) (by omega) (by omega)
  · rw [if_neg c]
    exact j3 _ _ _ (by omega) (by omega) (by omega) (by omega) (by omega) (by omega)
theorem mod_pred (v d : Nat) (hd : 0 < d) : (v % 2 ^ d ≠ 0) ↔ (v / 2 ^ (d - 1) % 2 = 1 ∨ v % 2 ^ (d - 1) ≠ 0) := by
  obtain ⟨c, rfl⟩ : ∃ c, d = c + 1 := ⟨d - 1, by omega⟩
  rw [Nat.add_sub_cancel, Nat.pow_succ, Nat.mod_mul]
  have hp := Nat.two_pow_pos c
  have h2 : v / 2 ^ c % 2 = 0 ∨ v / 2 ^ c % 2 = 1 := by omega
  rcases h2 with h2 | h2
  · rw [h2]; simp
  · rw [h2]; simp
theorem round_eq (k : Nat) (neg : Bool) (v : Nat) (e : Int) (more : Bool) (hv : v < 340282366920938463463374607431768211456) :
    round_Round.f (k + 5) neg ((v / 18446744073709551616 : Nat) : Int) ((v % 18446744073709551616 : Nat) : Int) e more = some (rBits neg v (clampE e) more, rFlags v (clampE e) more) := by
  have cb := clampE_bd e
  unfold round_Round.f
  rw [wzero_eq v hv, U.bs]
  by_cases h0 : v = 0
  · subst h0
    have m0 : word_Make.f neg 0 0 = some ((if neg = true then 9223372036854775808 else 0) + 0 + 0) := make_eq _ _ _ (by decide) (by decide) (by decide) (by decide)
    rw [if_pos (by decide), m0]
    unfold rBits rFlags
    cases more with
    | true => rw [if_pos rfl, U.bs]; simp only [if_true, Int.add_zero]
    | false => rw [if_neg (show ¬ false = true by decide), U.bs]; simp only [if_true, Int.add_zero, Bool.false_eq_true, if_false]
  · have lb := (U.blen_le 128 v).2 (by rw [p128]; exact hv)
    have lb0 : U.blen v ≠ 0 := fun c => h0 (U.blen_eq_zero.1 c)
    have w1 : wrap64 (((U.blen v : Nat) : Int) - 53) = (U.blen v : Int) - 53 := U.wrap64_id (by omega) (by omega)
    have fold : mx (-100000) (mn e 100000) = clampE e := rfl
    rw [if_neg (by simpa using h0), fold, wlen_eq _ v hv, U.bs, U.bs, w1, U.wrap64_id (a := clampE e + ((U.blen v : Int) - 53)) (by omega) (by omega), U.wrap64_id (a := clampE e + ((U.blen v : Nat) : Int)) (by omega) (by omega)]
    have hm := rM_le v (clampE e) more h0
    have hge := rDrop_ge (U.blen v) (clampE e)
    have hm2 : rM v (rDrop (U.blen v) (clampE e)) more < 4503599627370496 → clampE e + rDrop (U.blen v) (clampE e) = -1074 := by
      intro hlt
      by_cases hd : rDrop (U.blen v) (clampE e) = (U.blen v : Int) - 53
      · have := rM_ge v (clampE e) more h0 hd; omega
      · unfold rDrop at hd ⊢
        by_cases c : clampE e + ((U.blen v : Int) - 53) < -1074
        · rw [if_pos c] <;> omega
        · rw [if_neg c] at hd; exact absurd rfl hd
    have hdb : -200000 ≤ rDrop (U.blen v) (clampE e) ∧ rDrop (U.blen v) (clampE e) ≤ 200000 := by
      unfold rDrop; split <;> omega
    have j2 := fun q hi => round_j2 q neg (clampE e) (rDrop (U.blen v) (clampE e)) (decide (clampE e + ((U.blen v : Nat) : Int) < -1021)) (rLost v (rDrop (U.blen v) (clampE e)) more) hi (rM v (rDrop (U.blen v) (clampE e)) more) (by omega) (by omega) hdb.1 hdb.2 hge hm hm2
    have goal : ∀ q hi, round_Round.j2 (q + 3) neg (clampE e) (rDrop (U.blen v) (clampE e)) (decide (clampE e + ((U.blen v : Nat) : Int) < -1021)) (rLost v (rDrop (U.blen v) (clampE e)) more) hi ((rM v (rDrop (U.blen v) (clampE e)) more : Nat) : Int) = some (rBits neg v (clampE e) more, rFlags v (clampE e) more) := by
      intro q hi
      rw [j2 q hi]
      unfold rBits rFlags rPat rFlag
      rw [if_neg h0, if_neg h0]
      simp only [decide_eq_true_eq]
    have j0 : round_Round.j0 (k + 5) neg (clampE e) more (rDrop (U.blen v) (clampE e)) (decide (clampE e + ((U.blen v : Nat) : Int) < -1021)) ((v / 18446744073709551616 : Nat) : Int) ((v % 18446744073709551616 : Nat) : Int) = some (rBits neg v (clampE e) more, rFlags v (clampE e) more) := by
      rw [round_Round.j0]
      by_cases hd : rDrop (U.blen v) (clampE e) > 0
      · obtain ⟨d, hdd⟩ := Int.eq_ofNat_of_zero_le (by omega : 0 ≤ rDrop (U.blen v) (clampE e))
        rw [if_pos hd]
        have hM : rM v (rDrop (U.blen v) (clampE e)) more = v / 2 ^ d + (if rUp v d more then 1 else 0) := by
          unfold rM; rw [if_pos hd, hdd, Int.toNat_natCast]
        have hL : rLost v (rDrop (U.blen v) (clampE e)) more = (decide (v % 2 ^ d ≠ 0) || more) := by
          unfold rLost; rw [decide_eq_true hd, hdd, Int.toNat_natCast, Bool.true_and]
        have r := right_eq v hv (d : Int) (by omega) (by omega)
        rw [Int.toNat_natCast] at r
        have sp := rsplit_eq v d hv (by omega) (by omega) h0
        have mp := mod_pred v d (by omega)
        have hle := Nat.div_le_self v (2 ^ d)
        have q1 : v / 2 ^ d + 1 ≤ 9007199254740992 ∨ v / 2 ^ d ≤ 9007199254740992 := by
          rw [hM] at hm; right; split at hm <;> omega
        have low : v / 2 ^ d % 18446744073709551616 = v / 2 ^ d := Nat.mod_eq_of_lt (by omega)
        have high : v / 2 ^ d / 18446744073709551616 = 0 := Nat.div_eq_of_lt (by omega)
        rw [low, high, show ((0 : Nat) : Int) = 0 from rfl] at r
        have ad := wadd_eq (v / 2 ^ d) 1 (by omega) (by omega)
        have addlow : (v / 2 ^ d + 1) % 340282366920938463463374607431768211456 % 18446744073709551616 = v / 2 ^ d + 1 := by omega
        rw [low, high, addlow] at ad
        rw [show ((1 / 18446744073709551616 : Nat) : Int) = 0 from rfl, show ((1 % 18446744073709551616 : Nat) : Int) = 1 from rfl] at ad
        rw [hdd] at goal ⊢
        rw [r, U.bs]
        simp only
        rw [sp, U.bs]
        simp only
        rw [ad, U.and_1 (by omega) (by omega)]
        simp only [U.bs]
        rw [hdd] at hM hL
        rw [hM, hL] at goal
        by_cases half : v / 2 ^ (d - 1) % 2 = 1
        · have lost1 : decide (v % 2 ^ d ≠ 0) = true := decide_eq_true (mp.2 (Or.inl half))
          rw [lost1, Bool.true_or] at goal
          rw [if_pos (decide_eq_true half)]
          by_cases rest : v % 2 ^ (d - 1) ≠ 0
          · have up : rUp v d more = true := by unfold rUp; rw [decide_eq_true half, decide_eq_true rest]; rfl
            rw [up] at goal
            rw [if_pos (decide_eq_true rest)]
            exact goal _ _
          · rw [if_neg (by simpa using rest)]
            cases more with
            | true =>
              have up : rUp v d true = true := by unfold rUp; rw [decide_eq_true half]; simp
              rw [up] at goal
              rw [if_pos rfl]
              exact goal _ _
            | false =>
              rw [if_neg (by decide)]
              by_cases odd : v / 2 ^ d % 2 = 1
              · have up : rUp v d false = true := by unfold rUp; rw [decide_eq_true half, decide_eq_true odd]; simp
                rw [up] at goal
                have o2 : ((v / 2 ^ d : Nat) : Int) % 2 = 1 := by omega
                rw [if_pos o2]
                exact goal _ _
              · have up : rUp v d false = false := by unfold rUp; rw [decide_eq_false odd, decide_eq_false rest]; simp
                rw [up] at goal
                have o2 : ¬ ((v / 2 ^ d : Nat) : Int) % 2 = 1 := by omega
                rw [if_neg o2]
                exact goal _ _
        · have up : rUp v d more = false := by unfold rUp; rw [decide_eq_false half]; rfl
          rw [up] at goal
          rw [if_neg (by simpa using half)]
          by_cases rest : v % 2 ^ (d - 1) ≠ 0
          · have lost1 : decide (v % 2 ^ d ≠ 0) = true := decide_eq_true (mp.2 (Or.inr rest))
            rw [lost1, Bool.true_or] at goal
            rw [if_pos (decide_eq_true rest)]
            exact goal _ _
          · have lost1 : decide (v % 2 ^ d ≠ 0) = false := decide_eq_false (fun h => (mp.1 h).elim half rest)
            rw [lost1, Bool.false_or] at goal
            rw [if_neg (by simpa using rest)]
            exact goal _ _
      · rw [if_neg hd]
        have hM : rM v (rDrop (U.blen v) (clampE e)) more = v * 2 ^ (-rDrop (U.blen v) (clampE e)).toNat := by
          unfold rM; rw [if_neg hd]
        have hL : rLost v (rDrop (U.blen v) (clampE e)) more = more := by
          unfold rLost; rw [decide_eq_false hd, Bool.false_and, Bool.false_or]
        rw [hM, hL] at goal
        rw [hM] at hm
        have wn : wrap64 (-rDrop (U.blen v) (clampE e)) = -rDrop (U.blen v) (clampE e) := U.wrap64_id (by omega) (by omega)
        by_cases hneg : rDrop (U.blen v) (clampE e) < 0
        · rw [if_pos hneg]
          have l := left_eq v hv (-rDrop (U.blen v) (clampE e)) (by omega) (by omega)
          have low : v * 2 ^ (-rDrop (U.blen v) (clampE e)).toNat % 18446744073709551616 = v * 2 ^ (-rDrop (U.blen v) (clampE e)).toNat := Nat.mod_eq_of_lt (by omega)
          rw [low] at l
          rw [round_Round.j1, wn, l]
          simp only [U.bs]
          rw [if_pos hneg]
          cases more with
          | true => rw [if_neg (by decide)]; exact goal _ _
          | false => rw [if_pos (by decide)]; exact goal _ _
        · have z : rDrop (U.blen v) (clampE e) = 0 := by omega
          rw [if_neg hneg, round_Round.j1, if_neg (by decide), if_neg hneg]
          rw [z, show (-(0 : Int)).toNat = 0 from rfl, Nat.pow_zero, Nat.mul_one] at goal hm
          have low : v % 18446744073709551616 = v := Nat.mod_eq_of_lt (by omega)
          rw [z, low]
          exact goal _ _
    by_cases c : clampE e + ((U.blen v : Int) - 53) < -1074
    · rw [if_pos c]
      have : (-1074 : Int) - clampE e = rDrop (U.blen v) (clampE e) := by unfold rDrop; rw [if_pos c]
      rw [this]; exact j0
    · rw [if_neg c]
      have : (U.blen v : Int) - 53 = rDrop (U.blen v) (clampE e) := by unfold rDrop; rw [if_neg c]
      rw [this]; exact j0
theorem clampE_id {e : Int} (h : -100000 ≤ e) (h' : e ≤ 100000) : clampE e = e := by
  unfold clampE mx mn; repeat (any_goals split)
  all_goals omega
theorem blen_of {v L : Nat} (h1 : 2 ^ L ≤ v) (h2 : v < 2 ^ (L + 1)) : U.blen v = L + 1 := by
  have a := (U.blen_le (L + 1) v).2 h2
  have b := U.blen_le L v
  omega
theorem head_eq (k : Nat) : gimballaw03_head.f (k + 5) = some true := by
  unfold gimballaw03_head.f
  have r1 := round_eq k false 9007199254740993 0 false (by decide)
  have r2 := round_eq k false 9007199254740995 0 false (by decide)
  rw [show ((9007199254740993 / 18446744073709551616 : Nat) : Int) = 0 from rfl, show ((9007199254740993 % 18446744073709551616 : Nat) : Int) = 9007199254740993 from rfl] at r1
  rw [show ((9007199254740995 / 18446744073709551616 : Nat) : Int) = 0 from rfl, show ((9007199254740995 % 18446744073709551616 : Nat) : Int) = 9007199254740995 from rfl] at r2
  have l1 : U.blen 9007199254740993 = 54 := blen_of (L := 53) (by decide) (by decide)
  have l2 : U.blen 9007199254740995 = 54 := blen_of (L := 53) (by decide) (by decide)
  have d : rDrop ((54 : Nat) : Int) (clampE 0) = 1 := by decide
  have b1 : rBits false 9007199254740993 (clampE 0) false = 4845873199050653696 := by
    unfold rBits rPat rM rUp; rw [l1, d]; decide
  have f1 : rFlags 9007199254740993 (clampE 0) false = 1 := by
    unfold rFlags rPat rM rUp rFlag rLost; rw [l1, d]; decide
  have b2 : rBits false 9007199254740995 (clampE 0) false = 4845873199050653698 := by
    unfold rBits rPat rM rUp; rw [l2, d]; decide
  rw [b1, f1] at r1
  rw [b2] at r2
  have m1 : word_Make.f false 1076 0 = some 4845873199050653696 := by rw [make_eq _ _ _ (by decide) (by decide) (by decide) (by decide)]; decide
  have m2 : word_Make.f false 1076 2 = some 4845873199050653698 := by rw [make_eq _ _ _ (by decide) (by decide) (by decide) (by decide)]; decide
  rw [r1, r2, m1, m2]
  simp only [U.bs]
  decide
theorem rd_nat (l : List Int) (n : Nat) : rd l (n : Int) = l.getD n 0 := by unfold rd; rw [Int.toNat_natCast]
theorem trim_l0 (l : List Int) (hb : U.isb l) (hn : l.length < 17592186044416) (n : Nat) : ∀ k, n ≤ l.length → n < k → gimbalref02_Trim.l0 k l (n : Int) = some (U.binl (U.val (l.take n))) := by
  induction n with
  | zero =>
    intro k _ hk
    obtain ⟨k, rfl⟩ : ∃ m, k = m + 1 := ⟨k - 1, by omega⟩
    rw [gimbalref02_Trim.l0, if_neg (by omega)]
    simp [U.val, U.binl_zero]
  | succ n ih =>
    intro k h hk
    obtain ⟨k, rfl⟩ : ∃ m, k = m + 1 := ⟨k - 1, by omega⟩
    have hw : wrap64 (((n + 1 : Nat) : Int) - 1) = (n : Int) := by rw [U.wrap64_id (by omega) (by omega)]; omega
    rw [gimbalref02_Trim.l0, if_pos (by omega), hw, if_pos (by omega), if_pos (by omega), rd_nat]
    rcases U.getD_isb hb n with h0 | h1
    · rw [if_pos h0, ih k (by omega) (by omega), U.val_take_succ (by omega), h0]
      simp
    · rw [if_neg (by rw [h1]; decide)]
      have e : (((n + 1 : Nat) : Int)).toNat = n + 1 := Int.toNat_natCast _
      have hlen : (l.take (n + 1)).length = n + 1 := by rw [List.length_take]; omega
      rw [Option.bind_some, if_pos (by omega), if_pos (by omega), e, if_pos (by simp [hlen]; omega), List.nil_append]
      congr 1
      refine (U.binl_val (U.isb_take hb _) (Or.inr ?_)).1.symm
      rw [List.take_succ_eq_append_getElem (by omega), List.getLast?_append]
      rw [List.getD_eq_getElem?_getD, List.getElem?_eq_getElem (by omega), Option.getD_some] at h1
      simp [h1]
theorem trim_eq (l : List Int) (hb : U.isb l) (hn : l.length < 17592186044416) (k : Nat) (hk : l.length < k) : gimbalref02_Trim.f k l = some (U.binl (U.val l)) := by
  unfold gimbalref02_Trim.f
  rw [trim_l0 l hb hn l.length k (Nat.le_refl _) hk, List.take_length]
theorem of_l0 (n : Nat) : ∀ (k : Nat) (acc : List Int), n < 18446744073709551616 → U.blen n < k → acc.length + U.blen n < 17592186044416 → gimbalref02_Of.l0 k (n : Int) acc = some (acc ++ U.binl n) := by
  induction n using Nat.strongRecOn with
  | ind n ih =>
    intro k acc hn hk hl
    obtain ⟨k, rfl⟩ : ∃ m, k = m + 1 := ⟨k - 1, by omega⟩
    by_cases h : n = 0
    · subst h
      rw [gimbalref02_Of.l0, if_neg (by decide), U.binl_zero, List.append_nil]
    · have hb := U.blen_pos h
      have e1 : IntKind.u64.wrap (Int.tdiv (n : Int) 2) = ((n / 2 : Nat) : Int) := by
        rw [U.tdiv_nn (by omega), U.wrap_u64_id (by omega) (by omega)]; omega
      have e2 : wrap64 (Int.tmod (n : Int) 2) = ((n % 2 : Nat) : Int) := by
        rw [U.tmod_nn (by omega), U.wrap64_id (by omega) (by omega)]; omega
      rw [gimbalref02_Of.l0, if_pos (by omega), if_pos (by omega), e1, e2, ih (n / 2) (by omega) k _ (by omega) (by omega) (by simp; omega), U.binl_pos h]
      simp
theorem of_eq (n : Nat) (hn : n < 18446744073709551616) (k : Nat) (hk : 65 < k) : gimbalref02_Of.f k (n : Int) = some (U.binl n) := by
  have := (U.blen_le 64 n).2 hn
  unfold gimbalref02_Of.f
  rw [of_l0 n k [] hn (by omega) (by simp; omega), List.nil_append]
theorem up_l0 (l : List Int) (hb : U.isb l) (n : Nat) (hs : n + l.length < 17592186044416) (d : Nat) : ∀ (k i : Nat), i + d = n → d + n + l.length + 1 < k →
    gimbalref02_Up.l0 k l (n : Int) (List.replicate i 0) (i : Int) = some (U.binl (U.val l * 2 ^ n)) := by
  induction d with
  | zero =>
    intro k i hi hk
    obtain ⟨k, rfl⟩ : ∃ m, k = m + 1 := ⟨k - 1, by omega⟩
    have e : i = n := by omega
    subst e
    rw [gimbalref02_Up.l0, if_neg (by omega), if_pos (by rw [List.length_replicate]; omega), trim_eq _ (U.isb_append (U.isb_replicate _) hb) (by simp; omega) k (by simp; omega), U.val_append, U.val_replicate, List.length_replicate, Option.bind_some, Nat.zero_add, Nat.mul_comm]
  | succ d ih =>
    intro k i hi hk
    obtain ⟨k, rfl⟩ : ∃ m, k = m + 1 := ⟨k - 1, by omega⟩
    have hw : wrap64 ((i : Int) + 1) = ((i + 1 : Nat) : Int) := by rw [U.wrap64_id (by omega) (by omega)]; omega
    have hr : List.replicate i (0 : Int) ++ [0] = List.replicate (i + 1) 0 := by rw [List.replicate_succ']
    rw [gimbalref02_Up.l0, if_pos (by omega), if_pos (by rw [List.length_replicate]; omega), hr, hw]
    exact ih k (i + 1) (by omega) (by omega)
theorem up_eq (l : List Int) (hb : U.isb l) (n : Nat) (hs : n + l.length < 17592186044416) (k : Nat) (hk : 2 * n + l.length + 1 < k) : gimbalref02_Up.f k l (n : Int) = some (U.binl (U.val l * 2 ^ n)) := by
  unfold gimbalref02_Up.f
  exact up_l0 l hb n hs n k 0 (by omega) (by omega)
theorem up_binl (a n : Nat) (hs : n + U.blen a < 17592186044416) (k : Nat) (hk : 2 * n + U.blen a + 1 < k) : gimbalref02_Up.f k (U.binl a) (n : Int) = some (U.binl (a * 2 ^ n)) := by
  rw [up_eq _ (U.isb_binl a) n hs k hk, U.val_binl]
theorem cmp_l0 (l m : List Int) (hl : U.isb l) (hm : U.isb m) (n : Nat) : ∀ (k : Nat), n ≤ l.length → n ≤ m.length → n < k → n < 9223372036854775808 → gimbalref02_Cmp.l0 k l m ((n : Int) - 1) = some (U.cmp3 (U.val (l.take n)) (U.val (m.take n))) := by
  induction n with
  | zero =>
    intro k _ _ hk _
    obtain ⟨k, rfl⟩ : ∃ m, k = m + 1 := ⟨k - 1, by omega⟩
    rw [gimbalref02_Cmp.l0, if_neg (by omega)]
    simp [U.val, U.cmp3]
  | succ n ih =>
    intro k h1 h2 hk hb
    obtain ⟨k, rfl⟩ : ∃ m, k = m + 1 := ⟨k - 1, by omega⟩
    have e : ((n + 1 : Nat) : Int) - 1 = (n : Int) := by omega
    have hw : wrap64 ((n : Int) - 1) = (n : Int) - 1 := U.wrap64_id (by omega) (by omega)
    have b1 := U.val_lt (U.isb_take hl n)
    have b2 := U.val_lt (U.isb_take hm n)
    rw [List.length_take, Nat.min_eq_left (by omega)] at b1 b2
    have c1 := U.val_take_succ (l := l) (n := n) (by omega)
    have c2 := U.val_take_succ (l := m) (n := n) (by omega)
    rw [gimbalref02_Cmp.l0, e, if_pos (by omega), if_pos (by omega), if_pos (by omega), if_pos (by omega), rd_nat, rd_nat, hw]
    have g1 := U.getD_isb hl n
    have g2 := U.getD_isb hm n
    by_cases hq : l.getD n 0 = m.getD n 0
    · rw [if_pos hq, ih k (by omega) (by omega) (by omega) (by omega), c1, c2, hq]
      unfold U.cmp3
      congr 1
      repeat (any_goals split)
      all_goals omega
    · rw [if_neg hq]
      by_cases hlt : l.getD n 0 < m.getD n 0
      · have x1 : l.getD n 0 = 0 := by omega
        have x2 : m.getD n 0 = 1 := by omega
        rw [if_pos hlt, c1, c2, x1, x2]
        have : U.cmp3 ((U.val (l.take n) + 2 ^ n * (0 : Int).toNat : Nat) : Int) ((U.val (m.take n) + 2 ^ n * (1 : Int).toNat : Nat) : Int) = -1 := by
          unfold U.cmp3
          have t0 : (0 : Int).toNat = 0 := rfl
          have t1 : (1 : Int).toNat = 1 := rfl
          rw [t0, t1, if_pos (by omega)]
        rw [this]
      · have x1 : l.getD n 0 = 1 := by omega
        have x2 : m.getD n 0 = 0 := by omega
        rw [if_neg hlt, c1, c2, x1, x2]
        have : U.cmp3 ((U.val (l.take n) + 2 ^ n * (1 : Int).toNat : Nat) : Int) ((U.val (m.take n) + 2 ^ n * (0 : Int).toNat : Nat) : Int) = 1 := by
          unfold U.cmp3
          have t0 : (0 : Int).toNat = 0 := rfl
          have t1 : (1 : Int).toNat = 1 := rfl
          rw [t0, t1, if_neg (by omega), if_pos (by omega)]
        rw [this]
theorem refcmp_eq (l m : List Int) (hl : U.isb l) (hm : U.isb m) (ql : l.length < 17592186044416) (qm : m.length < 17592186044416) (k : Nat) (hk : l.length < k) (hk2 : m.length < k) : gimbalref02_Cmp.f k l m = some (U.cmp3 (U.val l) (U.val m)) := by
  unfold gimbalref02_Cmp.f
  rw [trim_eq l hl ql k hk, trim_eq m hm qm k hk2]
  simp only [Option.bind_some]
  have b1 := (U.blen_le l.length (U.val l)).2 (U.val_lt hl)
  have b2 := (U.blen_le m.length (U.val m)).2 (U.val_lt hm)
  have d1 : (U.binl (U.val l)).length = U.blen (U.val l) := rfl
  have d2 : (U.binl (U.val m)).length = U.blen (U.val m) := rfl
  have m1 := fun h : U.val m ≤ U.val l => U.blen_mono h
  have m2 := fun h : U.val l ≤ U.val m => U.blen_mono h
  rw [d1, d2]
  by_cases he : (U.blen (U.val l) : Int) = (U.blen (U.val m) : Int)
  · have he' : U.blen (U.val l) = U.blen (U.val m) := by omega
    have c := cmp_l0 (U.binl (U.val l)) (U.binl (U.val m)) (U.isb_binl _) (U.isb_binl _) (U.blen (U.val l)) k (Nat.le_refl _) (by rw [d2, he']; exact Nat.le_refl _) (by omega) (by omega)
    rw [if_pos he, U.wrap64_id (by omega) (by omega), c]
    have t1 : (U.binl (U.val l)).take (U.blen (U.val l)) = U.binl (U.val l) := by rw [← d1, List.take_length]
    have t2 : (U.binl (U.val m)).take (U.blen (U.val l)) = U.binl (U.val m) := by rw [he', ← d2, List.take_length]
    rw [t1, t2, U.val_binl, U.val_binl]
  · rw [if_neg he]
    unfold U.cmp3
    by_cases hlt : (U.blen (U.val l) : Int) < (U.blen (U.val m) : Int)
    · rw [if_pos hlt, if_pos (by omega)]
    · rw [if_neg hlt, if_neg (by omega), if_pos (by omega)]
theorem refcmp_binl (a b : Nat) (ql : U.blen a < 17592186044416) (qm : U.blen b < 17592186044416) (k : Nat) (hk : U.blen a < k) (hk2 : U.blen b < k) : gimbalref02_Cmp.f k (U.binl a) (U.binl b) = some (U.cmp3 a b) := by
  rw [refcmp_eq _ _ (U.isb_binl a) (U.isb_binl b) ql qm k hk hk2, U.val_binl, U.val_binl]
theorem val_drop (l : List Int) (i : Nat) : U.val (l.drop i) = (l.getD i 0).toNat + 2 * U.val (l.drop (i + 1)) := by
  by_cases h : i < l.length
  · rw [List.drop_eq_getElem_cons h, List.getD_eq_getElem?_getD, List.getElem?_eq_getElem h, Option.getD_some]; rfl
  · rw [List.drop_eq_nil_of_le (by omega), List.drop_eq_nil_of_le (by omega), List.getD_eq_getElem?_getD, List.getElem?_eq_none (by omega)]; rfl
theorem val_snoc (out : List Int) (x : Int) : U.val (out ++ [x]) = U.val out + 2 ^ out.length * x.toNat := by
  rw [U.val_append]; show _ + _ * (x.toNat + 2 * 0) = _; rw [Nat.mul_zero, Nat.add_zero]
theorem add_l0 (l m : List Int) (hl : U.isb l) (hm : U.isb m) (e : Nat) : ∀ (k i : Nat) (out : List Int) (c : Nat), c ≤ 1 → l.length ≤ i + e → m.length ≤ i + e → U.isb out → out.length = i → i + e < 17592186044000 →
    2 * e + 6 + (i + e + 2) < k + (1 - c) * 0 → gimbalref02_Add.l0 k l m out (c : Int) (i : Int) = some (U.binl (U.val out + 2 ^ i * (c + U.val (l.drop i) + U.val (m.drop i)))) := by
  have stop : ∀ (k i : Nat) (out : List Int), l.length ≤ i → m.length ≤ i → U.isb out → out.length = i → i < 17592186044400 → i + 3 < k →
      gimbalref02_Add.l0 k l m out 0 (i : Int) = some (U.binl (U.val out)) := by
    intro k i out h1 h2 hb ho hs hk
    obtain ⟨k, rfl⟩ : ∃ m, k = m + 2 := ⟨k - 2, by omega⟩
    rw [gimbalref02_Add.l0, if_neg (by omega), if_neg (by omega)]
    rw [gimbalref02_Add.j1, if_neg (by decide), trim_eq out hb (by omega) k (by omega), Option.bind_some]
  have step : ∀ (k i : Nat) (out : List Int) (c : Nat), c ≤ 1 → out.length = i → i < 17592186044400 → (i < l.length ∨ i < m.length ∨ c = 1) →
      gimbalref02_Add.l0 (k + 2) l m out (c : Int) (i : Int) = gimbalref02_Add.l0 k l m (out ++ [(((c + (l.getD i 0).toNat + (m.getD i 0).toNat) % 2 : Nat) : Int)]) (((c + (l.getD i 0).toNat + (m.getD i 0).toNat) / 2 : Nat) : Int) ((i + 1 : Nat) : Int) := by
    intro k i out c hc ho hs hor
    have g1 := U.getD_isb hl i
    have g2 := U.getD_isb hm i
    have j : gimbalref02_Add.j1 (k + 1) l m out (c : Int) (i : Int) true = gimbalref02_Add.l0 k l m (out ++ [(((c + (l.getD i 0).toNat + (m.getD i 0).toNat) % 2 : Nat) : Int)]) (((c + (l.getD i 0).toNat + (m.getD i 0).toNat) / 2 : Nat) : Int) ((i + 1 : Nat) : Int) := by
      have hi : wrap64 ((i : Int) + 1) = ((i + 1 : Nat) : Int) := by rw [U.wrap64_id (by omega) (by omega)]; omega
      rw [gimbalref02_Add.j1, if_pos rfl, rd_nat, rd_nat, hi]
      have z1 : ¬ (i : Int) < (l.length : Int) → l.getD i 0 = 0 := fun h => by rw [List.getD_eq_getElem?_getD, List.getElem?_eq_none (by omega)]; rfl
      have z2 : ¬ (i : Int) < (m.length : Int) → m.getD i 0 = 0 := fun h => by rw [List.getD_eq_getElem?_getD, List.getElem?_eq_none (by omega)]; rfl
      have fin : ∀ n : Int, n = (c : Int) + l.getD i 0 + m.getD i 0 → (Int.tmod n 2 = (((c + (l.getD i 0).toNat + (m.getD i 0).toNat) % 2 : Nat) : Int)) ∧ wrap64 (Int.tdiv n 2) = (((c + (l.getD i 0).toNat + (m.getD i 0).toNat) / 2 : Nat) : Int) := by
        intro n hn
        rw [U.tmod_nn (by omega), U.tdiv_nn (by omega), U.wrap64_id (by omega) (by omega)]
        omega
      by_cases c1 : (i : Int) < (l.length : Int)
      · rw [if_pos c1, if_pos (by omega)]
        have w1 : wrap64 ((c : Int) + l.getD i 0) = (c : Int) + l.getD i 0 := U.wrap64_id (by omega) (by omega)
        by_cases c2 : (i : Int) < (m.length : Int)
        · have w2 : wrap64 (wrap64 ((c : Int) + l.getD i 0) + m.getD i 0) = (c : Int) + l.getD i 0 + m.getD i 0 := by rw [w1]; exact U.wrap64_id (by omega) (by omega)
          obtain ⟨f1, f2⟩ := fin _ rfl
          rw [if_pos c2, if_pos (by omega), w2, f1, f2]
        · have y := z2 c2
          obtain ⟨f1, f2⟩ := fin ((c : Int) + l.getD i 0) (by omega)
          rw [if_neg c2, if_pos (by omega), w1, f1, f2]
      · have x := z1 c1
        rw [if_neg c1]
        by_cases c2 : (i : Int) < (m.length : Int)
        · have w1 : wrap64 ((c : Int) + m.getD i 0) = (c : Int) + m.getD i 0 := U.wrap64_id (by omega) (by omega)
          obtain ⟨f1, f2⟩ := fin ((c : Int) + m.getD i 0) (by omega)
          rw [if_pos c2, if_pos (by omega), if_pos (by omega), w1, f1, f2]
        · have y := z2 c2
          obtain ⟨f1, f2⟩ := fin (c : Int) (by omega)
          rw [if_neg c2, if_pos (by omega), f1, f2]
    rw [gimbalref02_Add.l0]
    by_cases c1 : (i : Int) < (l.length : Int)
    · rw [if_pos c1, j]
    · rw [if_neg c1]
      by_cases c2 : (i : Int) < (m.length : Int)
      · rw [if_pos c2, j]
      · have : decide ((c : Int) > 0) = true := by simp; omega
        rw [if_neg c2, this, j]
  have value : ∀ (i : Nat) (out : List Int) (c : Nat), c ≤ 1 → out.length = i →
      U.val (out ++ [(((c + (l.getD i 0).toNat + (m.getD i 0).toNat) % 2 : Nat) : Int)]) + 2 ^ (i + 1) * ((c + (l.getD i 0).toNat + (m.getD i 0).toNat) / 2 + U.val (l.drop (i + 1)) + U.val (m.drop (i + 1)))
        = U.val out + 2 ^ i * (c + U.val (l.drop i) + U.val (m.drop i)) := by
    intro i out c hc ho
    rw [val_snoc, ho, val_drop l i, val_drop m i, Int.toNat_natCast, Nat.pow_succ, Nat.mul_assoc, Nat.add_assoc, ← Nat.mul_add]
    congr 2
    omega
  have bit : ∀ (i : Nat) (out : List Int) (n : Nat), U.isb out → U.isb (out ++ [((n % 2 : Nat) : Int)]) := fun i out n hb => U.isb_append hb (U.isb_cons (by omega) U.isb_nil)
  induction e with
  | zero =>
    intro k i out c hc h1 h2 hb ho hs hk
    have d1 : U.val (l.drop i) = 0 := by rw [List.drop_eq_nil_of_le (by omega)]; rfl
    have d2 : U.val (m.drop i) = 0 := by rw [List.drop_eq_nil_of_le (by omega)]; rfl
    by_cases c0 : c = 0
    · subst c0
      have := stop k i out (by omega) (by omega) hb ho (by omega) (by omega)
      rw [show ((0 : Nat) : Int) = 0 from rfl, this, d1, d2]
      simp
    · have c1 : c = 1 := by omega
      obtain ⟨k, rfl⟩ : ∃ m, k = m + 2 := ⟨k - 2, by omega⟩
      rw [step k i out c hc ho (by omega) (Or.inr (Or.inr c1))]
      have v := value i out c hc ho
      have d3 : U.val (l.drop (i + 1)) = 0 := by rw [List.drop_eq_nil_of_le (by omega)]; rfl
      have d4 : U.val (m.drop (i + 1)) = 0 := by rw [List.drop_eq_nil_of_le (by omega)]; rfl
      have z1 : l.getD i 0 = 0 := by rw [List.getD_eq_getElem?_getD, List.getElem?_eq_none (by omega)]; rfl
      have z2 : m.getD i 0 = 0 := by rw [List.getD_eq_getElem?_getD, List.getElem?_eq_none (by omega)]; rfl
      have q : (c + (l.getD i 0).toNat + (m.getD i 0).toNat) / 2 = 0 := by rw [z1, z2, c1]; decide
      rw [q, d3, d4] at v
      rw [q, show ((0 : Nat) : Int) = 0 from rfl, stop k (i + 1) _ (by omega) (by omega) (bit i out _ hb) (by simp [ho]) (by omega) (by omega), ← v]
      simp
  | succ e ih =>
    intro k i out c hc h1 h2 hb ho hs hk
    by_cases any : i < l.length ∨ i < m.length ∨ c = 1
    · obtain ⟨k, rfl⟩ : ∃ m, k = m + 2 := ⟨k - 2, by omega⟩
      have g1 := U.getD_isb hl i
      have g2 := U.getD_isb hm i
      rw [step k i out c hc ho (by omega) any]
      rw [ih k (i + 1) _ _ (by omega) (by omega) (by omega) (bit i out _ hb) (by simp [ho]) (by omega) (by omega), value i out c hc ho]
    · have c0 : c = 0 := by omega
      subst c0
      have d1 : U.val (l.drop i) = 0 := by rw [List.drop_eq_nil_of_le (by omega)]; rfl
      have d2 : U.val (m.drop i) = 0 := by rw [List.drop_eq_nil_of_le (by omega)]; rfl
      have := stop k i out (by omega) (by omega) hb ho (by omega) (by omega)
      rw [show ((0 : Nat) : Int) = 0 from rfl, this, d1, d2]
      simp
theorem add_eq (l m : List Int) (hl : U.isb l) (hm : U.isb m) (n : Nat) (h1 : l.length ≤ n) (h2 : m.length ≤ n) (hn : n < 17592186044000) (k : Nat) (hk : 3 * n + 8 < k) : gimbalref02_Add.f k l m = some (U.binl (U.val l + U.val m)) := by
  unfold gimbalref02_Add.f
  have := add_l0 l m hl hm n k 0 [] 0 (by omega) (by omega) (by omega) U.isb_nil rfl (by omega) (by omega)
  rw [show ((0 : Nat) : Int) = 0 from rfl] at this
  rw [this]
  simp [U.val]
theorem add_binl (a b n : Nat) (h1 : U.blen a ≤ n) (h2 : U.blen b ≤ n) (hn : n < 17592186044000) (k : Nat) (hk : 3 * n + 8 < k) : gimbalref02_Add.f k (U.binl a) (U.binl b) = some (U.binl (a + b)) := by
  rw [add_eq _ _ (U.isb_binl a) (U.isb_binl b) n h1 h2 hn k hk, U.val_binl, U.val_binl]
theorem num_l0 (l : List Int) (hl : U.isb l) (n : Nat) : ∀ (k x : Nat), n ≤ l.length → n < k → n < 9223372036854775808 → x < 18446744073709551616 → gimbalref02_Num.l0 k l (x : Int) ((n : Int) - 1) = some (((x * 2 ^ n + U.val (l.take n)) % 18446744073709551616 : Nat) : Int) := by
  induction n with
  | zero =>
    intro k x _ hk _ hx
    obtain ⟨k, rfl⟩ : ∃ m, k = m + 1 := ⟨k - 1, by omega⟩
    rw [gimbalref02_Num.l0, if_neg (by omega)]
    simp [U.val]; omega
  | succ n ih =>
    intro k x h hk hb hx
    obtain ⟨k, rfl⟩ : ∃ m, k = m + 1 := ⟨k - 1, by omega⟩
    have g := U.getD_isb hl n
    have e : ((n + 1 : Nat) : Int) - 1 = (n : Int) := by omega
    have hw : wrap64 ((n : Int) - 1) = (n : Int) - 1 := U.wrap64_id (by omega) (by omega)
    have ex : IntKind.u64.wrap (IntKind.u64.wrap (2 * (x : Int)) + IntKind.u64.wrap (l.getD n 0)) = (((2 * x + (l.getD n 0).toNat) % 18446744073709551616 : Nat) : Int) := by
      rw [U.wrap_u64, U.wrap_u64, U.wrap_u64]; omega
    rw [gimbalref02_Num.l0, e, if_pos (by omega), if_pos (by omega), if_pos (by omega), rd_nat, hw, ex, ih k _ (by omega) (by omega) (by omega) (Nat.mod_lt _ (by decide)), U.val_take_succ (by omega)]
    congr 2
    rw [Nat.add_mod, Nat.mod_mul_mod, ← Nat.add_mod, Nat.add_mul, Nat.pow_succ, Nat.mul_assoc, Nat.mul_comm 2 (x * 2 ^ n), Nat.mul_assoc, Nat.mul_comm (l.getD n 0).toNat]
    congr 1
    rw [Nat.add_assoc, Nat.add_comm (2 ^ n * _)]
theorem num_eq (l : List Int) (hl : U.isb l) (k : Nat) (hk : 65 < k) (hs : l.length < 17592186044416) : gimbalref02_Num.f k l = some ((U.val l % 18446744073709551616 : Nat) : Int) := by
  unfold gimbalref02_Num.f
  have e : (mn (l.length : Int) 64) - 1 = ((min l.length 64 : Nat) : Int) - 1 := by unfold mn; split <;> omega
  rw [e]
  have := num_l0 l hl (min l.length 64) k 0 (Nat.min_le_left _ _) (by omega) (by omega) (by decide)
  rw [show ((0 : Nat) : Int) = 0 from rfl] at this
  rw [this, Nat.zero_mul, Nat.zero_add]
  congr 2
  have t : l.take (min l.length 64) = l.take 64 := by
    by_cases h : l.length ≤ 64
    · rw [Nat.min_eq_left h, List.take_length, List.take_of_length_le h]
    · rw [Nat.min_eq_right (by omega)]
  rw [t]
  have hv := U.val_append (l.take 64) (l.drop 64)
  rw [List.take_append_drop] at hv
  by_cases h : l.length ≤ 64
  · rw [List.take_of_length_le h]
  · have : (l.take 64).length = 64 := by rw [List.length_take]; omega
    rw [this] at hv
    have : 2 ^ 64 = 18446744073709551616 := by decide
    omega
theorem val_take_drop (l : List Int) (n : Nat) (hn : n ≤ l.length) : U.val l = U.val (l.take n) + 2 ^ n * U.val (l.drop n) := by
  have hv := U.val_append (l.take n) (l.drop n)
  rw [List.take_append_drop] at hv
  have : (l.take n).length = n := by rw [List.length_take]; omega
  rw [this] at hv
  exact hv
theorem val_div (l : List Int) (hl : U.isb l) (n : Nat) : U.val l / 2 ^ n = U.val (l.drop n) ∧ U.val l % 2 ^ n = U.val (l.take n) := by
  by_cases hn : n ≤ l.length
  · have h := val_take_drop l n hn
    have hlt := U.val_lt (U.isb_take hl n)
    have : (l.take n).length = n := by rw [List.length_take]; omega
    rw [this] at hlt
    rw [h]
    constructor
    · rw [Nat.add_mul_div_left _ _ (Nat.two_pow_pos n), Nat.div_eq_of_lt hlt, Nat.zero_add]
    · rw [Nat.add_mul_mod_self_left, Nat.mod_eq_of_lt hlt]
  · have hlt := U.val_lt hl
    have hp : 2 ^ l.length ≤ 2 ^ n := Nat.pow_le_pow_right (by decide) (by omega)
    rw [List.take_of_length_le (by omega), List.drop_eq_nil_of_le (by omega), Nat.div_eq_of_lt (by omega), Nat.mod_eq_of_lt (by omega)]
    exact ⟨rfl, rfl⟩
theorem down_l0 (l : List Int) (hl : U.isb l) (n : Nat) (hn : n < 17592186044416) (hs : l.length < 17592186044416) (d : Nat) : ∀ (k i : Nat) (lost : Bool), i ≤ n → i ≤ l.length → (i + d = n ∨ i + d = l.length) → i + d ≤ n → i + d ≤ l.length → d + l.length + 1 < k →
    lost = decide (U.val (l.take i) ≠ 0) → gimbalref02_Down.l0 k l (n : Int) lost (i : Int) = some (U.binl (U.val l / 2 ^ n), decide (U.val l % 2 ^ n ≠ 0)) := by
  have stop : ∀ (k i : Nat) (lost : Bool), (i = n ∨ i = l.length) → i ≤ n → i ≤ l.length → l.length + 1 < k → lost = decide (U.val (l.take i) ≠ 0) →
      gimbalref02_Down.l0 k l (n : Int) lost (i : Int) = some (U.binl (U.val l / 2 ^ n), decide (U.val l % 2 ^ n ≠ 0)) := by
    intro k i lost hi h1 h2 hk hlost
    obtain ⟨k, rfl⟩ : ∃ m, k = m + 1 := ⟨k - 1, by omega⟩
    obtain ⟨v1, v2⟩ := val_div l hl n
    rw [v1, v2]
    have hm : mx (n : Int) 0 = (n : Int) := by unfold mx; rw [if_neg (by omega)]
    have tk : U.val (l.take i) = U.val (l.take n) := by
      rcases hi with rfl | rfl
      · rfl
      · rw [List.take_length, List.take_of_length_le h1]
    have fin : (if (n : Int) ≥ (l.length : Int) then some (([] : List Int), lost) else if 0 ≤ mx (n : Int) 0 then if mx (n : Int) 0 ≤ (l.length : Int) then (gimbalref02_Trim.f k (l.drop (mx (n : Int) 0).toNat)).bind fun t => some (t, lost) else none else none) = some (U.binl (U.val (l.drop n)), decide (U.val (l.take n) ≠ 0)) := by
      rw [hlost, tk, hm, Int.toNat_natCast]
      by_cases hge : (n : Int) ≥ (l.length : Int)
      · rw [if_pos hge, List.drop_eq_nil_of_le (by omega)]
        show some (([] : List Int), _) = some (U.binl 0, _)
        rw [U.binl_zero]
      · rw [if_neg hge, if_pos (by omega), if_pos (by omega), trim_eq _ (U.isb_drop hl n) (by rw [List.length_drop]; omega) k (by rw [List.length_drop]; omega), Option.bind_some]
    rw [gimbalref02_Down.l0]
    by_cases c1 : (i : Int) < (n : Int)
    · rw [if_pos c1, if_neg (by omega)]
      exact fin
    · rw [if_neg c1]
      exact fin
  induction d with
  | zero =>
    intro k i lost h1 h2 h3 h4 h5 hk hlost
    exact stop k i lost (by omega) h1 h2 (by omega) hlost
  | succ d ih =>
    intro k i lost h1 h2 h3 h4 h5 hk hlost
    obtain ⟨k, rfl⟩ : ∃ m, k = m + 1 := ⟨k - 1, by omega⟩
    have hw : wrap64 ((i : Int) + 1) = ((i + 1 : Nat) : Int) := by rw [U.wrap64_id (by omega) (by omega)]; omega
    have g := U.getD_isb hl i
    have vt := U.val_take_succ (l := l) (n := i) (by omega)
    have hp := Nat.two_pow_pos i
    rw [gimbalref02_Down.l0, if_pos (by omega), if_pos (by omega), hw, rd_nat]
    cases lost with
    | true =>
      rw [if_pos rfl]
      refine ih k (i + 1) true (by omega) (by omega) (by omega) (by omega) (by omega) (by omega) ?_
      have : U.val (l.take i) ≠ 0 := of_decide_eq_true hlost.symm
      symm; apply decide_eq_true; omega
    | false =>
      rw [if_neg (by decide), if_pos (by omega)]
      refine ih k (i + 1) _ (by omega) (by omega) (by omega) (by omega) (by omega) (by omega) ?_
      have h0 : ¬ U.val (l.take i) ≠ 0 := of_decide_eq_false hlost.symm
      rcases g with g | g
      · rw [g] at vt ⊢
        have : U.val (l.take (i + 1)) = 0 := by rw [vt]; simp; omega
        simp [this]
      · rw [g] at vt ⊢
        have : U.val (l.take (i + 1)) ≠ 0 := by rw [vt]; simp
        simp [this]
theorem down_eq (l : List Int) (hl : U.isb l) (n : Nat) (hn : n < 17592186044416) (hs : l.length < 17592186044416) (k : Nat) (hk : 2 * l.length + 1 < k) : gimbalref02_Down.f k l (n : Int) = some (U.binl (U.val l / 2 ^ n), decide (U.val l % 2 ^ n ≠ 0)) := by
  unfold gimbalref02_Down.f
  exact down_l0 l hl n hn hs (min n l.length) k 0 false (by omega) (by omega) (by omega) (by omega) (by omega) (by omega) (by simp [U.val])
theorem arith6 {a b c d e f g h : Nat} (inv : a + e = b + h) (e2 : c + d = f + g + e) : a + c + d = b + f + (h + g) := by omega
theorem val_take_any (m : List Int) (i : Nat) : U.val (m.take (i + 1)) = U.val (m.take i) + 2 ^ i * (m.getD i 0).toNat := by
  by_cases h : i < m.length
  · exact U.val_take_succ h
  · have hge : m.length ≤ i := Nat.le_of_not_lt h
    have t1 : m.take (i + 1) = m := List.take_of_length_le (Nat.le_succ_of_le hge)
    have t2 : m.take i = m := List.take_of_length_le hge
    have t3 : m.getD i 0 = 0 := by rw [List.getD_eq_getElem?_getD, List.getElem?_eq_none hge]; rfl
    rw [t1, t2, t3]
    rfl
def SubInv (l m out : List Int) (i c : Nat) : Prop := U.val (l.take i) + 2 ^ i * c = U.val (m.take i) + U.val out
theorem sub_inv (l m out : List Int) (hl : U.isb l) (hm : U.isb m) (i c c' : Nat) (x : Int) (ho : out.length = i) (inv : SubInv l m out i c)
    (hx : x = 0 ∨ x = 1) (he : l.getD i 0 - (c : Int) - m.getD i 0 + 2 * (c' : Int) = x) : SubInv l m (out ++ [x]) (i + 1) c' := by
  have e : (l.getD i 0).toNat + 2 * c' = (m.getD i 0).toNat + x.toNat + c := by
    have g1 := U.getD_isb hl i
    have g2 := U.getD_isb hm i
    omega
  unfold SubInv at inv ⊢
  rw [val_take_any l i, val_take_any m i, val_snoc, ho, Nat.pow_succ, Nat.mul_assoc]
  have e2 : 2 ^ i * (l.getD i 0).toNat + 2 ^ i * (2 * c') = 2 ^ i * (m.getD i 0).toNat + 2 ^ i * x.toNat + 2 ^ i * c := by rw [← Nat.mul_add, e, Nat.mul_add, Nat.mul_add]
  exact arith6 inv e2
theorem sub_l0 (l m : List Int) (hl : U.isb l) (hm : U.isb m) (hs : l.length < 17592186044000) (d : Nat) : ∀ (k i : Nat) (out : List Int) (c : Nat), i + d = l.length → c ≤ 1 → U.isb out → out.length = i →
    SubInv l m out i c → d + l.length + 2 < k → m.length ≤ l.length → U.val m ≤ U.val l →
    gimbalref02_Sub.l0 k l m out (c : Int) (i : Int) = some (U.binl (U.val l - U.val m)) := by
  induction d with
  | zero =>
    intro k i out c hi hc hb ho inv hk hml hle
    obtain ⟨k, rfl⟩ : ∃ m, k = m + 1 := ⟨k - 1, by omega⟩
    have ei : i = l.length := by omega
    unfold SubInv at inv
    rw [List.take_of_length_le (by omega), List.take_of_length_le (by omega)] at inv
    have vl := U.val_lt hb
    rw [ho] at vl
    have c0 : c = 0 := by
      by_cases h : c = 0
      · exact h
      · have : c = 1 := by omega
        rw [this, Nat.mul_one] at inv; omega
    rw [c0, Nat.mul_zero, Nat.add_zero] at inv
    have fin : U.val out = U.val l - U.val m := by rw [inv, Nat.add_sub_cancel_left]
    rw [gimbalref02_Sub.l0, if_neg (by omega), trim_eq out hb (by omega) k (by omega), U.bs, fin]
  | succ d ih =>
    intro k i out c hi hc hb ho inv hk hml hle
    obtain ⟨k, rfl⟩ : ∃ m, k = m + 1 := ⟨k - 1, by omega⟩
    have g1 := U.getD_isb hl i
    have g2 := U.getD_isb hm i
    have hw : wrap64 ((i : Int) + 1) = ((i + 1 : Nat) : Int) := by rw [U.wrap64_id (by omega) (by omega)]; omega
    have z2 : ¬ (i : Int) < (m.length : Int) → m.getD i 0 = 0 := fun h => by rw [List.getD_eq_getElem?_getD, List.getElem?_eq_none (by omega)]; rfl
    have w1 : wrap64 (l.getD i 0 - (c : Int)) = l.getD i 0 - c := U.wrap64_id (by omega) (by omega)
    have w2 : wrap64 (wrap64 (l.getD i 0 - (c : Int)) - m.getD i 0) = l.getD i 0 - c - m.getD i 0 := by rw [w1]; exact U.wrap64_id (by omega) (by omega)
    have next : ∀ (x : Int) (c' : Nat), (x = 0 ∨ x = 1) → c' ≤ 1 → l.getD i 0 - (c : Int) - m.getD i 0 + 2 * (c' : Int) = x →
        gimbalref02_Sub.l0 k l m (out ++ [x]) (c' : Int) ((i + 1 : Nat) : Int) = some (U.binl (U.val l - U.val m)) := by
      intro x c' hx hc' he
      refine ih k (i + 1) (out ++ [x]) c' (by omega) hc' (U.isb_append hb (U.isb_cons hx U.isb_nil)) (by simp [ho]) ?_ (by omega) hml hle
      exact sub_inv l m out hl hm i c c' x ho inv hx he
    clear inv
    rw [gimbalref02_Sub.l0, if_pos (by omega), if_pos (by omega), hw, rd_nat, rd_nat]
    by_cases hlt : (i : Int) < (m.length : Int)
    · rw [if_pos hlt, w2]
      by_cases neg : l.getD i 0 - (c : Int) - m.getD i 0 < 0
      · rw [if_pos neg, if_pos (by omega), U.wrap64_id (by omega) (by omega)]
        exact next _ 1 (by omega) (by omega) (by omega)
      · rw [if_neg neg, if_pos (by omega)]
        exact next _ 0 (by omega) (by omega) (by omega)
    · have z := z2 hlt
      rw [if_neg hlt, w1]
      by_cases neg : l.getD i 0 - (c : Int) < 0
      · rw [if_pos neg, if_pos (by omega), U.wrap64_id (by omega) (by omega)]
        exact next _ 1 (by omega) (by omega) (by omega)
      · rw [if_neg neg, if_pos (by omega)]
        exact next _ 0 (by omega) (by omega) (by omega)
theorem sub_binl (a b : Nat) (h : b ≤ a) (hs : U.blen a < 17592186044000) (k : Nat) (hk : 2 * U.blen a + 2 < k) : gimbalref02_Sub.f k (U.binl a) (U.binl b) = some (U.binl (a - b)) := by
  unfold gimbalref02_Sub.f
  have := sub_l0 (U.binl a) (U.binl b) (U.isb_binl a) (U.isb_binl b) hs (U.binl a).length k 0 [] 0 (by omega) (by omega) U.isb_nil rfl (by simp [SubInv, U.val]) (by show U.blen a + U.blen a + 2 < k; omega) (U.blen_mono h) (by rw [U.val_binl, U.val_binl]; exact h)
  rw [show ((0 : Nat) : Int) = 0 from rfl] at this
  rw [this, U.val_binl, U.val_binl]
/-- The reference's rounding of a whole number X times 2^E, by numbers. -/
def fUp (X d : Nat) : Bool := decide (2 ^ d < X % 2 ^ d * 2) || (decide (X % 2 ^ d * 2 = 2 ^ d) && decide (X / 2 ^ d % 2 = 1))
def fLast (X : Nat) (E : Int) : Int := if E + (U.blen X : Int) - 53 < -1074 then -1074 else E + (U.blen X : Int) - 53
def fM (X : Nat) (E : Int) : Nat := if E < fLast X E then X / 2 ^ (fLast X E - E).toNat + (if fUp X (fLast X E - E).toNat then 1 else 0) else X * 2 ^ (E - fLast X E).toNat
def fLost (X : Nat) (E : Int) : Bool := decide (E < fLast X E) && decide (X % 2 ^ (fLast X E - E).toNat ≠ 0)
theorem ref_j5 (k : Nat) (sign last : Int) (m : Nat) (f : Int) (hf : f = 0 ∨ f = 1 ∨ f = 3) (hs : sign = 0 ∨ sign = 9223372036854775808) (hl : -1074 ≤ last) (hl2 : last ≤ 10000) (hm : m ≤ 9007199254740992) (hm2 : m < 4503599627370496 → last = -1074) (hk : 300 < k) :
    gimbalref03_Round.j4 k sign last (U.binl m) f = some (sign + (if 9218868437227405312 ≤ (last + 1074).toNat * 4503599627370496 + m then 9218868437227405312 else (((last + 1074).toNat * 4503599627370496 + m : Nat) : Int)),
      if 9218868437227405312 ≤ (last + 1074).toNat * 4503599627370496 + m then (if f = 3 then 7 else 5) else f) := by
  obtain ⟨k, rfl⟩ : ∃ m, k = m + 2 := ⟨k - 2, by omega⟩
  have o1 : Go.bits .or .i64 (wrap64 ((wrap64 (Int.tdiv f 2)) * 2)) 5 = if f = 3 then 7 else 5 := by rcases hf with rfl | rfl | rfl <;> decide +kernel
  have j5 : ∀ (x : Int) (m' P : Nat), -1074 ≤ x → x ≤ 20000 → m' < 9007199254740992 → (m' < 4503599627370496 → P = m') → (4503599627370496 ≤ m' → (P : Int) = (x + 1074) * 4503599627370496 + m') →
      gimbalref03_Round.j5 (k + 1) sign x (U.binl m') f = some (sign + (if 9218868437227405312 ≤ P then 9218868437227405312 else (P : Int)), if 9218868437227405312 ≤ P then (if f = 3 then 7 else 5) else f) := by
    intro x m' P x1 x2 m1 p1 p2
    have bl := (U.blen_le 53 m').2 m1
    have b52 := U.blen_le 52 m'
    have e52 : (2 : Nat) ^ 52 = 4503599627370496 := by decide
    rw [e52] at b52
    have w : wrap64 (x + 1075) = x + 1075 := U.wrap64_id (by omega) (by omega)
    rw [gimbalref03_Round.j5, num_eq _ (U.isb_binl m') k (by omega) (by show U.blen m' < _; omega), U.bs, U.val_binl, Nat.mod_eq_of_lt (by omega), w]
    have dl : ((U.binl m').length : Int) = (U.blen m' : Int) := rfl
    rw [dl]
    by_cases c : (U.blen m' : Int) < 53
    · have q := p1 (by omega)
      have np : ¬ 9218868437227405312 ≤ P := by omega
      rw [if_pos c, if_neg np, if_neg np, q, U.wrap_u64_id (by omega) (by omega)]
    · have q := p2 (by omega)
      rw [if_neg c]
      by_cases c2 : x + 1075 ≥ 2047
      · have np : 9218868437227405312 ≤ P := by omega
        rw [if_pos c2, if_pos np, if_pos np, o1, U.wrap_u64_id (by omega) (by omega)]
      · have np : ¬ 9218868437227405312 ≤ P := by omega
        rw [if_neg c2, if_neg np, if_neg np, U.wrap_u64_id (a := x + 1075) (by omega) (by omega), U.wrap_u64_id (a := (x + 1075) * 4503599627370496) (by omega) (by omega), U.wrap_u64_id (a := sign + (x + 1075) * 4503599627370496) (by omega) (by omega), U.wrap_u64_id (a := sign + (x + 1075) * 4503599627370496 + (m' : Int)) (by omega) (by omega), U.wrap_u64_id (by omega) (by omega)]
        have : sign + (x + 1075) * 4503599627370496 + (m' : Int) - 4503599627370496 = sign + (P : Int) := by omega
        rw [this]
  have w : wrap64 (last + 1) = last + 1 := U.wrap64_id (by omega) (by omega)
  rw [gimbalref03_Round.j4, w]
  have dl : ((U.binl m).length : Int) = (U.blen m : Int) := rfl
  have b53 := U.blen_le 53 m
  have e53 : (2 : Nat) ^ 53 = 9007199254740992 := by decide
  rw [e53] at b53
  rw [dl]
  have b54 := (U.blen_le 54 m).2 (by omega)
  by_cases c : (U.blen m : Int) = 54
  · have hm54 : m = 9007199254740992 := by omega
    have dn := down_eq (U.binl m) (U.isb_binl m) 1 (by decide) (by show U.blen m < _; omega) (k + 1) (by show 2 * U.blen m + 1 < _; omega)
    rw [U.val_binl, show ((1 : Nat) : Int) = 1 from rfl] at dn
    rw [if_pos c, dn, U.bs]
    simp only
    have half : m / 2 ^ 1 = 4503599627370496 := by rw [hm54]
    rw [half]
    exact j5 (last + 1) 4503599627370496 _ (by omega) (by omega) (by decide) (by omega) (by omega)
  · rw [if_neg c]
    exact j5 last m _ (by omega) (by omega) (by omega) (by omega) (by omega)
theorem ref_j1 (k : Nat) (sign E : Int) (X : Nat) (hX : X ≠ 0) (hs : sign = 0 ∨ sign = 9223372036854775808) (hE : -3000 ≤ E) (hE2 : E ≤ 3000) (hL : U.blen X ≤ 400) (hk : 20000 < k) :
    gimbalref03_Round.j1 k E sign (U.binl X) = some (sign + (if 9218868437227405312 ≤ (fLast X E + 1074).toNat * 4503599627370496 + fM X E then 9218868437227405312 else (((fLast X E + 1074).toNat * 4503599627370496 + fM X E : Nat) : Int)),
      if 9218868437227405312 ≤ (fLast X E + 1074).toNat * 4503599627370496 + fM X E then (if fLost X E && decide (E + (U.blen X : Int) < -1021) then 7 else 5) else (if fLost X E then (if E + (U.blen X : Int) < -1021 then 3 else 1) else 0)) := by
  obtain ⟨k, rfl⟩ : ∃ m, k = m + 3 := ⟨k - 3, by omega⟩
  have dl : ((U.binl X).length : Int) = (U.blen X : Int) := rfl
  have lb0 : U.blen X ≠ 0 := fun c => hX (U.blen_eq_zero.1 c)
  have w1 : wrap64 (E + (U.blen X : Int)) = E + (U.blen X : Int) := U.wrap64_id (by omega) (by omega)
  have w2 : wrap64 (E + (U.blen X : Int) - 53) = E + (U.blen X : Int) - 53 := U.wrap64_id (by omega) (by omega)
  have lastd : (fLast X E = -1074 ∧ E + (U.blen X : Int) - 53 < -1074) ∨ (fLast X E = E + (U.blen X : Int) - 53 ∧ -1074 ≤ E + (U.blen X : Int) - 53) := by unfold fLast; split <;> omega
  have lastb : -1074 ≤ fLast X E ∧ fLast X E ≤ 4000 ∧ (fLast X E ≠ -1074 → fLast X E = E + (U.blen X : Int) - 53) := by unfold fLast; split <;> omega
  have hlt := U.lt_blen X
  have hge := U.blen_ge X hX
  -- the kept number's bounds
  have mle : fM X E ≤ 9007199254740992 := by
    have e53 : 9007199254740992 = 2 ^ 53 := by decide
    unfold fM
    by_cases c : E < fLast X E
    · rw [if_pos c]
      have : X / 2 ^ (fLast X E - E).toNat < 9007199254740992 := by
        rw [Nat.div_lt_iff_lt_mul (Nat.two_pow_pos _), e53, ← Nat.pow_add]
        exact Nat.lt_of_lt_of_le hlt (Nat.pow_le_pow_right (by decide) (by omega))
      split <;> omega
    · rw [if_neg c]
      have a : X * 2 ^ (E - fLast X E).toNat < 2 ^ U.blen X * 2 ^ (E - fLast X E).toNat := Nat.mul_lt_mul_of_pos_right hlt (Nat.two_pow_pos _)
      rw [← Nat.pow_add] at a
      have b : 2 ^ (U.blen X + (E - fLast X E).toNat) ≤ 2 ^ 53 := by
        exact Nat.pow_le_pow_right (by decide) (by omega)
      rw [e53]; exact Nat.le_of_lt (Nat.lt_of_lt_of_le a b)
  have mge : fM X E < 4503599627370496 → fLast X E = -1074 := by
    intro hm
    by_cases h0 : fLast X E = -1074
    · exact h0
    · have hl := lastb.2.2 h0
      have e52 : 4503599627370496 = 2 ^ 52 := by decide
      exfalso
      have : 4503599627370496 ≤ fM X E := by
        unfold fM
        by_cases c : E < fLast X E
        · rw [if_pos c]
          have : 4503599627370496 ≤ X / 2 ^ (fLast X E - E).toNat := by
            rw [Nat.le_div_iff_mul_le (Nat.two_pow_pos _), e52, ← Nat.pow_add]
            exact Nat.le_trans (Nat.pow_le_pow_right (by decide) (by omega)) hge
          omega
        · rw [if_neg c]
          have a : 2 ^ (U.blen X - 1) * 2 ^ (E - fLast X E).toNat ≤ X * 2 ^ (E - fLast X E).toNat := Nat.mul_le_mul_right _ hge
          rw [← Nat.pow_add] at a
          refine Nat.le_trans ?_ a
          rw [e52]
          exact Nat.pow_le_pow_right (by decide) (by omega)
      omega
  have j3 : gimbalref03_Round.j3 (k + 1) sign (fLast X E) (decide (E + (U.blen X : Int) < -1021)) (U.binl (fM X E)) (fLost X E) = some (sign + (if 9218868437227405312 ≤ (fLast X E + 1074).toNat * 4503599627370496 + fM X E then 9218868437227405312 else (((fLast X E + 1074).toNat * 4503599627370496 + fM X E : Nat) : Int)),
      if 9218868437227405312 ≤ (fLast X E + 1074).toNat * 4503599627370496 + fM X E then (if fLost X E && decide (E + (U.blen X : Int) < -1021) then 7 else 5) else (if fLost X E then (if E + (U.blen X : Int) < -1021 then 3 else 1) else 0)) := by
    have j4 := fun f hf => ref_j5 k sign (fLast X E) (fM X E) f hf hs (by omega) (by omega) mle mge (by omega)
    rw [gimbalref03_Round.j3]
    cases fLost X E with
    | true =>
      rw [if_pos rfl]
      by_cases c : E + (U.blen X : Int) < -1021
      · rw [if_pos (decide_eq_true c), j4 3 (by omega), decide_eq_true c, if_pos c]; rfl
      · rw [if_neg (by simpa using c), j4 1 (by omega), decide_eq_false c, if_neg c]; rfl
    | false =>
      rw [if_neg (by decide), j4 0 (by omega)]; rfl
  have j2 : gimbalref03_Round.j2 (k + 2) E sign (U.binl X) (fLast X E) = some (sign + (if 9218868437227405312 ≤ (fLast X E + 1074).toNat * 4503599627370496 + fM X E then 9218868437227405312 else (((fLast X E + 1074).toNat * 4503599627370496 + fM X E : Nat) : Int)),
      if 9218868437227405312 ≤ (fLast X E + 1074).toNat * 4503599627370496 + fM X E then (if fLost X E && decide (E + (U.blen X : Int) < -1021) then 7 else 5) else (if fLost X E then (if E + (U.blen X : Int) < -1021 then 3 else 1) else 0)) := by
    rw [gimbalref03_Round.j2, dl, w1]
    by_cases c : fLast X E > E
    · obtain ⟨d, hd⟩ := Int.eq_ofNat_of_zero_le (by omega : 0 ≤ fLast X E - E)
      have wd : wrap64 (fLast X E - E) = (d : Int) := by rw [U.wrap64_id (by omega) (by omega), hd]
      have dn := down_eq (U.binl X) (U.isb_binl X) d (by omega) (by show U.blen X < _; omega) (k + 1) (by show 2 * U.blen X + 1 < _; omega)
      rw [U.val_binl] at dn
      have bq := U.blen_mono (Nat.div_le_self X (2 ^ d))
      have br := U.blen_mono (Nat.mod_le X (2 ^ d))
      have bm := U.blen_mono (Nat.div_mul_le_self X (2 ^ d))
      have up1 := up_binl (X / 2 ^ d) d (by omega) (k + 1) (by omega)
      have sb := sub_binl X (X / 2 ^ d * 2 ^ d) (Nat.div_mul_le_self X (2 ^ d)) (by omega) (k + 1) (by omega)
      have rest : X - X / 2 ^ d * 2 ^ d = X % 2 ^ d := by
        have dm := Nat.div_add_mod X (2 ^ d)
        rw [Nat.mul_comm] at dm
        exact Nat.sub_eq_of_eq_add (by rw [Nat.add_comm]; exact dm.symm)
      rw [rest] at sb
      have up2 := up_binl (X % 2 ^ d) 1 (by omega) (k + 1) (by omega)
      rw [show ((1 : Nat) : Int) = 1 from rfl, Nat.pow_one] at up2
      have b1 : U.blen 1 = 1 := by unfold U.blen; rw [U.binl_one]; rfl
      have up3 := up_binl 1 d (by omega) (k + 1) (by omega)
      rw [U.binl_one, Nat.one_mul] at up3
      have bp : U.blen (2 ^ d) ≤ d + 1 := (U.blen_le _ _).2 (Nat.pow_lt_pow_right (by decide) (by omega))
      have br2 : U.blen (X % 2 ^ d * 2) ≤ U.blen X + 1 := by
        refine (U.blen_le _ _).2 ?_
        have := Nat.mod_le X (2 ^ d)
        rw [Nat.pow_succ]; omega
      have cp := refcmp_binl (X % 2 ^ d * 2) (2 ^ d) (by omega) (by omega) (k + 1) (by omega) (by omega)
      have cs := U.cmp3_cases ((X % 2 ^ d * 2 : Nat) : Int) ((2 ^ d : Nat) : Int)
      have ad := add_binl (X / 2 ^ d) 1 400 (by omega) (by omega) (by omega) (k + 1) (by omega)
      rw [U.binl_one] at ad
      have hM : fM X E = X / 2 ^ d + (if fUp X d then 1 else 0) := by unfold fM; rw [if_pos c, hd, Int.toNat_natCast]
      have hLo : fLost X E = decide (X % 2 ^ d ≠ 0) := by unfold fLost; rw [decide_eq_true c, hd, Int.toNat_natCast, Bool.true_and]
      rw [hLo, hM] at j3
      rw [hLo, hM, if_pos c, wd, dn, U.bs]
      simp only
      rw [up1, U.bs, sb, U.bs, up2, U.bs, up3, U.bs, cp, U.bs, ad]
      simp only [U.bs]
      have dq : ((U.binl (X / 2 ^ d)).length : Int) = (U.blen (X / 2 ^ d) : Int) := rfl
      have r0 : rd (U.binl (X / 2 ^ d)) 0 = ((X / 2 ^ d % 2 : Nat) : Int) := by
        have := rd_nat (U.binl (X / 2 ^ d)) 0
        rw [show ((0 : Nat) : Int) = 0 from rfl] at this
        rw [this, U.getD_binl, Nat.pow_zero, Nat.div_one]
      rw [dq, r0]
      obtain ⟨cc, hcc⟩ : ∃ cc, cc = U.cmp3 ((X % 2 ^ d * 2 : Nat) : Int) ((2 ^ d : Nat) : Int) := ⟨_, rfl⟩
      rw [← hcc] at cs ⊢
      have up_gt : cc > 0 → fUp X d = true := fun h => by
        unfold fUp; rw [decide_eq_true (show 2 ^ d < X % 2 ^ d * 2 by omega)]; rfl
      have up_eq0 : cc = 0 → fUp X d = decide (X / 2 ^ d % 2 = 1) := fun h => by
        unfold fUp; rw [decide_eq_false (show ¬ 2 ^ d < X % 2 ^ d * 2 by omega), decide_eq_true (show X % 2 ^ d * 2 = 2 ^ d by omega)]; rfl
      have up_lt : cc < 0 → fUp X d = false := fun h => by
        unfold fUp; rw [decide_eq_false (show ¬ 2 ^ d < X % 2 ^ d * 2 by omega), decide_eq_false (show ¬ X % 2 ^ d * 2 = 2 ^ d by omega)]; rfl
      by_cases hq : (U.blen (X / 2 ^ d) : Int) > 0
      · rw [if_pos hq, if_pos hq]
        by_cases c1 : cc > 0
        · rw [up_gt c1, if_pos rfl] at j3
          rw [up_gt c1, if_pos c1]; exact j3
        · rw [if_neg c1]
          by_cases c2 : cc = 0
          · rw [if_pos c2]
            by_cases odd : X / 2 ^ d % 2 = 1
            · have u := up_eq0 c2
              rw [decide_eq_true odd] at u
              rw [u, if_pos rfl] at j3
              rw [u, if_pos (show ((X / 2 ^ d % 2 : Nat) : Int) = 1 by rw [odd]; rfl)]; exact j3
            · have u := up_eq0 c2
              rw [decide_eq_false odd] at u
              rw [u, if_neg (by decide), Nat.add_zero] at j3
              rw [u, if_neg (show ¬ ((X / 2 ^ d % 2 : Nat) : Int) = 1 by intro h; exact odd (by exact_mod_cast h)), if_neg (show ¬ false = true by decide), Nat.add_zero]; exact j3
          · have u := up_lt (by omega)
            rw [u, if_neg (by decide), Nat.add_zero] at j3
            rw [if_neg c2, u, if_neg (show ¬ false = true by decide), Nat.add_zero]; exact j3
      · have q0 : X / 2 ^ d = 0 := U.blen_eq_zero.1 (by omega)
        rw [if_neg hq]
        by_cases c1 : cc > 0
        · rw [up_gt c1, if_pos rfl] at j3
          rw [up_gt c1, if_pos c1]; exact j3
        · have u : fUp X d = false := by
            by_cases c2 : cc = 0
            · rw [up_eq0 c2, q0]; rfl
            · exact up_lt (by omega)
          rw [u, if_neg (by decide), Nat.add_zero] at j3
          rw [if_neg c1, u, if_neg (show ¬ false = true by decide), Nat.add_zero]
          by_cases c2 : cc = 0
          · rw [if_pos c2]; exact j3
          · rw [if_neg c2]; exact j3
    · obtain ⟨d, hd⟩ := Int.eq_ofNat_of_zero_le (by omega : 0 ≤ E - fLast X E)
      have wd : wrap64 (E - fLast X E) = (d : Int) := by rw [U.wrap64_id (by omega) (by omega), hd]
      have up1 := up_binl X d (by omega) (k + 1) (by omega)
      have hM : fM X E = X * 2 ^ d := by unfold fM; rw [if_neg c, hd, Int.toNat_natCast]
      have hLo : fLost X E = false := by unfold fLost; rw [decide_eq_false c, Bool.false_and]
      rw [hLo, hM] at j3
      rw [hLo, hM, if_neg c, wd, up1, U.bs]
      exact j3
  rw [gimbalref03_Round.j1, dl, if_neg (by omega), w1, w2]
  by_cases c : E + (U.blen X : Int) - 53 < -1074
  · have : (-1074 : Int) = fLast X E := by unfold fLast; rw [if_pos c]
    rw [if_pos c]
    conv => lhs; rw [this]
    exact j2
  · have : E + (U.blen X : Int) - 53 = fLast X E := by unfold fLast; rw [if_neg c]
    rw [if_neg c, this]; exact j2
/-- The reference's numbers are the rounding's: v, s places up, and t beneath. -/
theorem x_div (v s d t : Nat) (ht : t < 2 ^ s) : (v * 2 ^ s + t) / 2 ^ (d + s) = v / 2 ^ d ∧ (v * 2 ^ s + t) % 2 ^ (d + s) = t + 2 ^ s * (v % 2 ^ d) := by
  have e : 2 ^ (d + s) = 2 ^ s * 2 ^ d := by rw [Nat.pow_add, Nat.mul_comm]
  have q : (v * 2 ^ s + t) / 2 ^ s = v := by
    rw [Nat.add_comm, Nat.add_mul_div_right _ _ (Nat.two_pow_pos s), Nat.div_eq_of_lt ht, Nat.zero_add]
  have m : (v * 2 ^ s + t) % 2 ^ s = t := by
    rw [Nat.add_comm, Nat.add_mul_mod_self_right, Nat.mod_eq_of_lt ht]
  rw [e, ← Nat.div_div_eq_div_mul, Nat.mod_mul, q, m]
  exact ⟨rfl, rfl⟩
theorem up_plain (S P r t : Nat) (hS : 2 ≤ S) (ht : t ≤ 1) : (S * (P * 2) < (t + S * r) * 2 ↔ (P < r ∨ (P = r ∧ t = 1))) ∧ ((t + S * r) * 2 = S * (P * 2) ↔ (P = r ∧ t = 0)) := by
  have e : S * (P * 2) = S * P * 2 := by rw [Nat.mul_assoc]
  rw [e]
  rcases Nat.lt_trichotomy P r with h | h | h
  · have := Nat.mul_le_mul_left S h
    rw [Nat.mul_succ] at this
    constructor
    · constructor <;> omega
    · constructor <;> omega
  · subst h
    constructor
    · constructor <;> omega
    · constructor <;> omega
  · have := Nat.mul_le_mul_left S h
    rw [Nat.mul_succ] at this
    constructor
    · constructor <;> omega
    · constructor <;> omega
theorem fUp_eq (v s d t : Nat) (more : Bool) (hd : 0 < d) (hs : 2 ≤ s) (ht : t = if more then 1 else 0) : fUp (v * 2 ^ s + t) (d + s) = rUp v d more := by
  obtain ⟨c, rfl⟩ : ∃ c, d = c + 1 := ⟨d - 1, by omega⟩
  have S2 : 2 ≤ 2 ^ s := by
    have : 2 ^ 1 ≤ 2 ^ s := Nat.pow_le_pow_right (by decide) (by omega)
    omega
  have t1 : t ≤ 1 := by rw [ht]; split <;> omega
  have x := x_div v s (c + 1) t (by omega)
  have e : 2 ^ (c + 1 + s) = 2 ^ s * (2 ^ c * 2) := by rw [Nat.pow_add, Nat.pow_succ, Nat.mul_comm]
  have m : v % 2 ^ (c + 1) = v % 2 ^ c + 2 ^ c * (v / 2 ^ c % 2) := by rw [Nat.pow_succ, Nat.mod_mul]
  have u := up_plain (2 ^ s) (2 ^ c) (v % 2 ^ (c + 1)) t S2 t1
  have ml := Nat.mod_lt v (Nat.two_pow_pos c)
  unfold fUp rUp
  rw [x.1, x.2, e, Nat.add_sub_cancel, Bool.eq_iff_iff]
  simp only [Bool.or_eq_true, Bool.and_eq_true, decide_eq_true_eq]
  rw [u.1, u.2, m]
  obtain ⟨P, hP⟩ : ∃ P, P = 2 ^ c := ⟨_, rfl⟩
  obtain ⟨o, ho⟩ : ∃ o, o = v / 2 ^ (c + 1) % 2 := ⟨_, rfl⟩
  obtain ⟨r, hr⟩ : ∃ r, r = v % 2 ^ c := ⟨_, rfl⟩
  rw [← hr] at ml ⊢
  rw [← ho]
  rw [← hP] at ml ⊢
  have h2 : v / P % 2 = 0 ∨ v / P % 2 = 1 := by omega
  rcases h2 with h2 | h2
  · rw [h2, Nat.mul_zero]
    constructor
    · rintro h; omega
    · rintro ⟨h, _⟩; omega
  · rw [h2, Nat.mul_one]
    cases more with
    | true =>
      rw [if_pos rfl] at ht
      constructor
      · intro _; exact ⟨rfl, Or.inl (Or.inr rfl)⟩
      · intro _; omega
    | false =>
      rw [if_neg (by decide)] at ht
      constructor
      · intro h; refine ⟨rfl, ?_⟩
        rcases h with h | h
        · exact Or.inl (Or.inl (by omega))
        · exact Or.inr h.2
      · rintro ⟨_, (h | h) | h⟩
        · exact Or.inl (by omega)
        · exact absurd h (by decide)
        · by_cases r0 : r = 0
          · exact Or.inr ⟨by omega, h⟩
          · exact Or.inl (by omega)
theorem blen_x (v s t : Nat) (hv : v ≠ 0) (ht : t < 2 ^ s) : U.blen (v * 2 ^ s + t) = U.blen v + s := by
  have h1 : U.blen (v * 2 ^ s + t) ≤ U.blen v + s := by
    refine (U.blen_le _ _).2 ?_
    have := Nat.mul_le_mul_right (2 ^ s) (U.lt_blen v)
    rw [Nat.pow_add]
    rw [Nat.succ_mul] at this
    omega
  have h2 : U.blen (v * 2 ^ s) ≤ U.blen (v * 2 ^ s + t) := U.blen_mono (by omega)
  rw [U.blen_mul_pow v s hv] at h2
  omega
theorem fLast_eq (v s t : Nat) (e : Int) (hv : v ≠ 0) (ht : t < 2 ^ s) : fLast (v * 2 ^ s + t) (e - s) = e + rDrop (U.blen v) e := by
  unfold fLast rDrop
  rw [blen_x v s t hv ht]
  split <;> split <;> omega
theorem fM_eq (v s t : Nat) (e : Int) (more : Bool) (hv : v ≠ 0) (hs : 2 ≤ s) (ht : t = if more then 1 else 0) (hm : more = true → 2 ≤ rDrop (U.blen v) e + s) :
    fM (v * 2 ^ s + t) (e - s) = rM v (rDrop (U.blen v) e) more ∧ fLost (v * 2 ^ s + t) (e - s) = rLost v (rDrop (U.blen v) e) more := by
  have S2 : 4 ≤ 2 ^ s := by
    have : 2 ^ 2 ≤ 2 ^ s := Nat.pow_le_pow_right (by decide) (by omega)
    omega
  have t1 : t ≤ 1 := by rw [ht]; split <;> omega
  have tm : t ≠ 0 ↔ more = true := by rw [ht]; cases more <;> simp
  have fl := fLast_eq v s t e hv (by omega)
  obtain ⟨drop, hdrop⟩ : ∃ drop, drop = rDrop (U.blen v) e := ⟨_, rfl⟩
  rw [← hdrop] at fl hm ⊢
  unfold fM fLost
  rw [fl]
  by_cases hd : 0 < drop
  · obtain ⟨d, rfl⟩ := Int.eq_ofNat_of_zero_le (by omega : 0 ≤ drop)
    have td : (e + (d : Int) - (e - s)).toNat = d + s := by omega
    have x := x_div v s d t (by omega)
    rw [if_pos (by omega), td, decide_eq_true (show e - s < e + (d : Int) by omega), Bool.true_and, fUp_eq v s d t more (by omega) hs ht, x.1, x.2]
    unfold rM rLost
    rw [if_pos hd, decide_eq_true hd, Int.toNat_natCast, Bool.true_and]
    refine ⟨rfl, ?_⟩
    rw [Bool.eq_iff_iff]
    simp only [Bool.or_eq_true, decide_eq_true_eq]
    rw [← tm]
    have z : 2 ^ s * (v % 2 ^ d) = 0 ↔ v % 2 ^ d = 0 := by
      rw [Nat.mul_eq_zero]; constructor
      · rintro (h | h)
        · omega
        · exact h
      · exact Or.inr
    omega
  · obtain ⟨j, hj⟩ := Int.eq_ofNat_of_zero_le (by omega : 0 ≤ -drop)
    have hrM : rM v drop more = v * 2 ^ j := by unfold rM; rw [if_neg hd, hj, Int.toNat_natCast]
    have hrL : rLost v drop more = more := by unfold rLost; rw [decide_eq_false hd, Bool.false_and, Bool.false_or]
    rw [hrM, hrL]
    by_cases c : j < s
    · obtain ⟨u, hu⟩ : ∃ u, s = j + u := ⟨s - j, by omega⟩
      have td : (e + drop - (e - s)).toNat = u := by omega
      have e1 : v * 2 ^ s = v * 2 ^ j * 2 ^ u := by rw [hu, Nat.pow_add, Nat.mul_assoc]
      have u2 : 2 ≤ 2 ^ u := by
        have : 2 ^ 1 ≤ 2 ^ u := Nat.pow_le_pow_right (by decide) (by omega)
        omega
      have u4 : more = true → 4 ≤ 2 ^ u := fun h => by
        have := hm h
        have : 2 ^ 2 ≤ 2 ^ u := Nat.pow_le_pow_right (by decide) (by omega)
        omega
      have tu : t < 2 ^ u := by omega
      have x := x_div (v * 2 ^ j) u 0 t tu
      rw [Nat.zero_add, Nat.pow_zero, Nat.div_one, Nat.mod_one, Nat.mul_zero, Nat.add_zero] at x
      have nu : fUp (v * 2 ^ s + t) u = false := by
        unfold fUp
        rw [e1, x.2, decide_eq_false (by
          intro h
          have := tm.1 (by omega)
          have := u4 this; omega), Bool.false_or, decide_eq_false (by
          intro h
          have := tm.1 (by omega)
          have := u4 this; omega), Bool.false_and]
      rw [if_pos (by omega), td, nu, e1, x.1, x.2, decide_eq_true (show e - s < e + drop by omega), Bool.true_and]
      refine ⟨rfl, ?_⟩
      rw [Bool.eq_iff_iff, decide_eq_true_eq]; exact tm
    · have mf : more = false := by
        cases more with
        | false => rfl
        | true => have := hm rfl; omega
      subst mf
      have t0 : t = 0 := by rw [ht]; rfl
      subst t0
      obtain ⟨u, hu⟩ : ∃ u, j = s + u := ⟨j - s, by omega⟩
      have td : (e - s - (e + drop)).toNat = u := by omega
      rw [if_neg (by omega), td, decide_eq_false (by omega), Bool.false_and, Nat.add_zero, hu, Nat.pow_add, Nat.mul_assoc]
      exact ⟨rfl, rfl⟩
theorem ref_flags (v s t : Nat) (e : Int) (more : Bool) (k : Nat) (neg : Bool) (hv : v ≠ 0) (hs : 2 ≤ s) (ht : t = if more then 1 else 0) (hm : more = true → 2 ≤ rDrop (U.blen v) e + s)
    (hE : -2700 ≤ e) (hE2 : e ≤ 2700) (hs2 : s ≤ 202) (hL : U.blen v ≤ 128) (hk : 20000 < k) :
    gimbalref03_Round.j1 k (e - s) (if neg = true then 9223372036854775808 else 0) (U.binl (v * 2 ^ s + t)) = some (rBits neg v e more, rFlags v e more) := by
  have S2 : 4 ≤ 2 ^ s := by
    have : 2 ^ 2 ≤ 2 ^ s := Nat.pow_le_pow_right (by decide) (by omega)
    omega
  have t1 : t ≤ 1 := by rw [ht]; split <;> omega
  have pos : v * 2 ^ s + t ≠ 0 := by
    have := Nat.mul_ne_zero hv (show 2 ^ s ≠ 0 by omega)
    omega
  have bl := blen_x v s t hv (by omega)
  have m := fM_eq v s t e more hv hs ht hm
  rw [ref_j1 k _ (e - s) (v * 2 ^ s + t) pos (by split <;> omega) (by omega) (by omega) (by omega) hk, fLast_eq v s t e hv (by omega), m.1, m.2, bl]
  have e1 : e - (s : Int) + ((U.blen v + s : Nat) : Int) = e + (U.blen v : Int) := by omega
  rw [e1]
  have pat : (e + rDrop (U.blen v) e + 1074).toNat * 4503599627370496 + rM v (rDrop (U.blen v) e) more = rPat v e more := rfl
  rw [pat]
  unfold rBits rFlags
  rw [if_neg hv, if_neg hv]
  have fl : rFlag v e more = (if rLost v (rDrop (U.blen v) e) more then (if e + (U.blen v : Int) < -1021 then 3 else 1) else 0) := rfl
  rw [← fl]
  have f7 : (if (rLost v (rDrop (U.blen v) e) more && decide (e + (U.blen v : Int) < -1021)) = true then (7 : Int) else 5) = Go.bits .or .u8 (Go.bits .or .u8 (rFlag v e more) 4) 1 := by
    rw [fl]
    have b0 : Go.bits .or .u8 (Go.bits .or .u8 0 4) 1 = 5 := by decide
    have b1 : Go.bits .or .u8 (Go.bits .or .u8 1 4) 1 = 5 := by decide
    have b3 : Go.bits .or .u8 (Go.bits .or .u8 3 4) 1 = 7 := by decide
    cases rLost v (rDrop (U.blen v) e) more with
    | true =>
      by_cases c : e + (U.blen v : Int) < -1021
      · rw [if_pos rfl, if_pos c, decide_eq_true c, b3]; rfl
      · rw [if_pos rfl, if_neg c, decide_eq_false c, b1]; rfl
    | false => rw [if_neg (show ¬ false = true by decide), b0]; rfl
  rw [f7]
theorem ref_zero (k : Nat) (neg : Bool) (E : Int) (hk : 2 < k) : gimbalref03_Round.j1 k E (if neg = true then 9223372036854775808 else 0) (U.binl 0) = some (if neg = true then 9223372036854775808 else 0, 0) := by
  obtain ⟨k, rfl⟩ : ∃ m, k = m + 3 := ⟨k - 3, by omega⟩
  rw [gimbalref03_Round.j1, U.binl_zero, if_pos (by rfl)]
theorem ref_eq (k : Nat) (neg : Bool) (v s : Nat) (e : Int) (more : Bool) (hE : -2700 ≤ e) (hE2 : e ≤ 2700) (hs2 : s ≤ 200) (hL : U.blen v ≤ 128) (hk : 30000 < k) (hm : more = true → s = 200) (hz : more = true → v ≠ 0) :
    gimbalref03_Round.f k neg (U.binl (v * 2 ^ s)) (e - s) more = some (rBits neg v e more, rFlags v e more) := by
  obtain ⟨k, rfl⟩ : ∃ m, k = m + 3 := ⟨k - 3, by omega⟩
  have b1 : U.blen (v * 2 ^ s) ≤ 328 := by
    by_cases h : v = 0
    · rw [h, Nat.zero_mul, U.blen_zero]; omega
    · rw [U.blen_mul_pow v s h]; omega
  have up := up_binl (v * 2 ^ s) 2 (by omega) (k + 2) (by omega)
  rw [show ((2 : Nat) : Int) = 2 from rfl, Nat.mul_assoc, ← Nat.pow_add] at up
  have w : wrap64 (e - (s : Int) - 2) = e - ((s + 2 : Nat) : Int) := by rw [U.wrap64_id (by omega) (by omega)]; omega
  have b2 : U.blen (v * 2 ^ (s + 2)) ≤ 330 := by
    by_cases h : v = 0
    · rw [h, Nat.zero_mul, U.blen_zero]; omega
    · rw [U.blen_mul_pow v (s + 2) h]; omega
  have one : U.blen 1 ≤ 330 := (U.blen_le _ _).2 (by decide)
  have j0 : gimbalref03_Round.j0 (k + 3) (U.binl (v * 2 ^ s)) (e - s) more (if neg = true then 9223372036854775808 else 0) = some (rBits neg v e more, rFlags v e more) := by
    rw [gimbalref03_Round.j0, up, U.bs, w]
    cases more with
    | true =>
      have hv := hz rfl
      have := hm rfl
      have ad := add_binl (v * 2 ^ (s + 2)) 1 330 b2 one (by omega) (k + 2) (by omega)
      rw [U.binl_one] at ad
      rw [if_pos rfl, ad, U.bs]
      refine ref_flags v (s + 2) 1 e true (k + 2) neg hv (by omega) rfl ?_ hE hE2 (by omega) hL (by omega)
      intro _
      have : (-53 : Int) ≤ rDrop (U.blen v) e := by unfold rDrop; split <;> omega
      omega
    | false =>
      rw [if_neg (by decide)]
      by_cases hv : v = 0
      · subst hv
        rw [Nat.zero_mul, ref_zero (k + 2) neg _ (by omega)]
        unfold rBits rFlags
        simp
      · exact ref_flags v (s + 2) 0 e false (k + 2) neg hv (by omega) rfl (fun h => absurd h (by decide)) hE hE2 (by omega) hL (by omega)
  unfold gimbalref03_Round.f
  cases neg with
  | true => rw [if_pos rfl]; rw [if_pos rfl] at j0; exact j0
  | false => rw [if_neg (by decide)]; rw [if_neg (by decide)] at j0; exact j0
theorem list_eq (v : Nat) (hv : v < 340282366920938463463374607431768211456) (k : Nat) (hk : 1000 < k) : gimballaw03_list.f k ((v / 18446744073709551616 : Nat) : Int) ((v % 18446744073709551616 : Nat) : Int) = some (U.binl v) := by
  unfold gimballaw03_list.f
  have l1 := (U.blen_le 64 (v % 18446744073709551616)).2 (by omega)
  have l2 := (U.blen_le 64 (v / 18446744073709551616)).2 (by omega)
  rw [of_eq _ (by omega) k (by omega), of_eq _ (by omega) k (by omega)]
  simp only [U.bs]
  have u := up_binl (v / 18446744073709551616) 64 (by omega) k (by omega)
  rw [show ((64 : Nat) : Int) = 64 from rfl] at u
  have e : 2 ^ 64 = 18446744073709551616 := by decide
  rw [u, U.bs, e]
  have l3 := (U.blen_le 128 (v / 18446744073709551616 * 18446744073709551616)).2 (by omega)
  rw [add_binl _ _ 128 (by omega) l3 (by omega) k (by omega), U.bs]
  congr 2; omega
theorem sg (neg : Bool) (x : Int) (h : 0 ≤ x) (h' : x < 9223372036854775808) : word_Abs.f ((if neg = true then 9223372036854775808 else 0) + x) = some x ∧ word_Neg.f ((if neg = true then 9223372036854775808 else 0) + x) = some neg := by
  rw [abs_eq _ (by split <;> omega) (by split <;> omega), neg_eq _ (by split <;> omega) (by split <;> omega)]
  cases neg with
  | true =>
    rw [if_pos rfl, decide_eq_true (by omega)]
    exact ⟨by congr 1; omega, rfl⟩
  | false =>
    rw [if_neg (by decide), decide_eq_false (by omega)]
    exact ⟨by congr 1; omega, rfl⟩
theorem rFlag_cases (v : Nat) (e : Int) (more : Bool) : rFlag v e more = 0 ∨ rFlag v e more = 1 ∨ rFlag v e more = 3 := by
  unfold rFlag; repeat (any_goals split)
  all_goals omega
theorem orr (f : Int) (h : f = 0 ∨ f = 1 ∨ f = 3) : Go.bits .or .u8 (Go.bits .or .u8 f 4) 1 = if f = 3 then 7 else 5 := by rcases h with h | h | h <;> subst h <;> decide
theorem rFlags_wrap (v : Nat) (e : Int) (more : Bool) : wrap64 (rFlags v e more) = rFlags v e more := by
  have c := rFlag_cases v e more
  have : 0 ≤ rFlags v e more ∧ rFlags v e more ≤ 7 := by
    unfold rFlags
    rw [orr _ c]
    repeat (any_goals split)
    all_goals omega
  exact U.wrap64_id (by omega) (by omega)
theorem far_low (v : Nat) (e : Int) (more : Bool) (hv : v ≠ 0) (hL : U.blen v ≤ 128) (he : e < -1500) : rPat v e more = 0 ∧ rFlag v e more = 3 := by
  have dr : rDrop (U.blen v) e = -1074 - e := by unfold rDrop; rw [if_pos (by omega)]
  obtain ⟨d, hd⟩ := Int.eq_ofNat_of_zero_le (by omega : 0 ≤ -1074 - e)
  have lt : v < 2 ^ (d - 1) := Nat.lt_of_lt_of_le (U.lt_blen v) (Nat.pow_le_pow_right (by decide) (by omega))
  have lt2 : v < 2 ^ d := Nat.lt_of_lt_of_le (U.lt_blen v) (Nat.pow_le_pow_right (by decide) (by omega))
  unfold rPat rFlag
  rw [dr, hd]
  unfold rM rLost rUp
  rw [if_pos (by omega), Int.toNat_natCast, Nat.div_eq_of_lt lt, Nat.div_eq_of_lt lt2, Nat.mod_eq_of_lt lt2, decide_eq_true (show (0 : Int) < (d : Int) by omega), decide_eq_true hv]
  have z : (e + (d : Int) + 1074).toNat = 0 := by omega
  rw [z]
  refine ⟨rfl, ?_⟩
  rw [if_pos (by rfl), if_pos (by omega)]
theorem far_high (v : Nat) (e : Int) (more : Bool) (hv : v ≠ 0) (he : 1500 < e) : 9218868437227405312 ≤ rPat v e more ∧ Go.bits .or .u8 (Go.bits .or .u8 (rFlag v e more) 4) 1 = 5 := by
  have lb : U.blen v ≠ 0 := fun c => hv (U.blen_eq_zero.1 c)
  have dr : rDrop (U.blen v) e = (U.blen v : Int) - 53 := by unfold rDrop; rw [if_neg (by omega)]
  constructor
  · unfold rPat
    rw [dr]
    have : 2047 ≤ (e + ((U.blen v : Int) - 53) + 1074).toNat := by omega
    omega
  · have c := rFlag_cases v e more
    rw [orr _ c]
    have : rFlag v e more ≠ 3 := by
      unfold rFlag
      rw [if_neg (show ¬ e + (U.blen v : Int) < -1021 by omega)]
      split <;> decide
    rw [if_neg this]
theorem ref_some (k : Nat) (neg : Bool) (e : Int) (hE : -2700 ≤ e) (hE2 : e ≤ 2700) (hk : 30000 < k) : ∃ r, gimbalref03_Round.f k neg (U.binl 0) (e - 200) true = some r := by
  obtain ⟨k, rfl⟩ : ∃ m, k = m + 3 := ⟨k - 3, by omega⟩
  have b0 : U.blen 0 = 0 := U.blen_zero
  have up := up_binl 0 2 (by omega) (k + 2) (by omega)
  rw [show ((2 : Nat) : Int) = 2 from rfl, Nat.zero_mul] at up
  have one : U.blen 1 ≤ 330 := (U.blen_le _ _).2 (by decide)
  have ad := add_binl 0 1 330 (by omega) one (by omega) (k + 2) (by omega)
  rw [U.binl_one] at ad
  have w : wrap64 (e - 200 - 2) = e - 202 := by rw [U.wrap64_id (by omega) (by omega)]; omega
  have j1 := ref_j1 (k + 2) (if neg = true then 9223372036854775808 else 0) (e - 202) 1 (by decide) (by split <;> omega) (by omega) (by omega) (by omega) (by omega)
  rw [U.binl_one] at j1
  have j0 : ∃ r, gimbalref03_Round.j0 (k + 3) (U.binl 0) (e - 200) true (if neg = true then 9223372036854775808 else 0) = some r := by
    rw [gimbalref03_Round.j0, up, U.bs, w, if_pos rfl, ad, U.bs, j1]
    exact ⟨_, rfl⟩
  unfold gimbalref03_Round.f
  cases neg with
  | true => rw [if_pos rfl]; rw [if_pos rfl] at j0; exact j0
  | false => rw [if_neg (by decide)]; rw [if_neg (by decide)] at j0; exact j0
theorem law_j2 (k : Nat) (neg : Bool) (x : Int) (f : Int) (z : Bool) (h : 0 ≤ x) (h' : x < 9223372036854775808) (hz : if z = true then x = 0 ∧ f = 3 else x = 9218868437227405312 ∧ f = 5) :
    gimballaw03_RoundAny.j2 (k + 1) neg ((if neg = true then 9223372036854775808 else 0) + x) f z = some true := by
  have s := sg neg x h h'
  rw [gimballaw03_RoundAny.j2]
  cases z with
  | true =>
    rw [if_pos rfl] at hz
    rw [if_pos rfl, s.1, U.bs, if_pos hz.1, s.2, U.bs, if_pos (by simp), hz.2]; rfl
  | false =>
    rw [if_neg (by decide)] at hz
    rw [if_neg (by decide), s.1, U.bs, if_pos hz.1, s.2, U.bs, if_pos (by simp), hz.2]; rfl
theorem law_far (k : Nat) (neg : Bool) (v : Nat) (hv : v < 340282366920938463463374607431768211456) (e a2 : Int) (more : Bool) (he : e = clampE a2) (hf : e < -1500 ∨ 1500 < e) :
    gimballaw03_RoundAny.j0 (k + 20) neg a2 more e true ((v / 18446744073709551616 : Nat) : Int) ((v % 18446744073709551616 : Nat) : Int) = some true := by
  have L := (U.blen_le 128 v).2 (by rw [show (2 : Nat) ^ 128 = 340282366920938463463374607431768211456 by decide]; exact hv)
  rw [gimballaw03_RoundAny.j0, if_pos rfl, round_eq (k + 14) neg v a2 more hv, U.bs, wzero_eq v hv, U.bs, ← he]
  simp only
  by_cases h0 : v = 0
  · have b : rBits neg v e more = (if neg = true then 9223372036854775808 else 0) + 0 := by unfold rBits; rw [if_pos h0]
    have f : rFlags v e more = if more then 3 else 0 := by unfold rFlags; rw [if_pos h0]
    have s := sg neg 0 (by decide) (by decide)
    rw [if_pos (by rw [h0]; rfl), b, f, gimballaw03_RoundAny.j1]
    cases more with
    | true =>
      rw [if_neg (by decide)]
      by_cases c : e < 0
      · rw [if_pos c]; exact law_j2 _ neg 0 _ true (by decide) (by decide) ⟨rfl, rfl⟩
      · rw [if_neg c, wzero_eq v hv, U.bs, h0]; exact law_j2 _ neg 0 _ true (by decide) (by decide) ⟨rfl, rfl⟩
    | false =>
      rw [if_pos (by rfl), s.1, U.bs, if_pos rfl, s.2, U.bs, if_pos (by simp)]; rfl
  · rw [if_neg (by simpa using h0), gimballaw03_RoundAny.j1, if_neg (by decide)]
    rcases hf with c | c
    · have q := far_low v e more h0 L c
      have b : rBits neg v e more = (if neg = true then 9223372036854775808 else 0) + 0 := by unfold rBits; rw [if_neg h0, q.1]; rfl
      have f : rFlags v e more = 3 := by unfold rFlags; rw [if_neg h0, q.1, q.2]; rfl
      rw [if_pos (by omega), b, f]
      exact law_j2 _ neg 0 _ true (by decide) (by decide) ⟨rfl, rfl⟩
    · have q := far_high v e more h0 c
      have b : rBits neg v e more = (if neg = true then 9223372036854775808 else 0) + 9218868437227405312 := by unfold rBits; rw [if_neg h0, if_pos q.1]
      have f : rFlags v e more = 5 := by unfold rFlags; rw [if_neg h0, if_pos q.1, q.2]
      rw [if_neg (by omega), wzero_eq v hv, U.bs, decide_eq_false h0, b, f]
      exact law_j2 _ neg _ _ false (by decide) (by decide) ⟨rfl, rfl⟩
theorem law_near (k : Nat) (neg : Bool) (v : Nat) (hv : v < 340282366920938463463374607431768211456) (e a2 : Int) (more : Bool) (he : e = clampE a2) (h1 : -1500 ≤ e) (h2 : e ≤ 1500) :
    gimballaw03_RoundAny.j0 (k + 40000) neg a2 more e false ((v / 18446744073709551616 : Nat) : Int) ((v % 18446744073709551616 : Nat) : Int) = some true := by
  have L := (U.blen_le 128 v).2 (by rw [show (2 : Nat) ^ 128 = 340282366920938463463374607431768211456 by decide]; exact hv)
  rw [show k + 40000 = (k + 39999) + 1 by omega, gimballaw03_RoundAny.j0, if_neg (by decide), show k + 39999 = (k + 39994) + 5 by omega, round_eq (k + 39994) neg v a2 more hv, U.bs, list_eq v hv _ (by omega), U.bs, ← he]
  simp only
  have w := rFlags_wrap v e more
  cases more with
  | true =>
    have up := up_binl v 200 (by omega) (k + 39994 + 5) (by omega)
    rw [show ((200 : Nat) : Int) = 200 from rfl] at up
    have ww : wrap64 (e - 200) = e - 200 := U.wrap64_id (by omega) (by omega)
    rw [if_pos rfl, up, U.bs, ww]
    by_cases h0 : v = 0
    · obtain ⟨r, hr⟩ := ref_some (k + 39994 + 5) neg e (by omega) (by omega) (by omega)
      have b : rBits neg v e true = (if neg = true then 9223372036854775808 else 0) + 0 := by unfold rBits; rw [if_pos h0]
      have f : rFlags v e true = 3 := by unfold rFlags; rw [if_pos h0]; rfl
      have s := sg neg 0 (by decide) (by decide)
      have z : v * 2 ^ 200 = 0 := by rw [h0, Nat.zero_mul]
      rw [z, hr, U.bs, wzero_eq v hv, U.bs, if_pos (decide_eq_true h0), b, f, s.1, U.bs, if_pos rfl, s.2, U.bs, if_pos (by simp)]; rfl
    · have r := ref_eq (k + 39994 + 5) neg v 200 e true (by omega) (by omega) (by omega) L (by omega) (fun _ => rfl) (fun _ => h0)
      rw [show ((200 : Nat) : Int) = 200 from rfl] at r
      rw [r, U.bs, wzero_eq v hv, U.bs, if_neg (by simpa using h0), if_pos rfl, w]
      simp
  | false =>
    have r := ref_eq (k + 39994 + 5) neg v 0 e false (by omega) (by omega) (by omega) L (by omega) (fun h => absurd h (by decide)) (fun h => absurd h (by decide))
    rw [Nat.pow_zero, Nat.mul_one, show ((0 : Nat) : Int) = 0 from rfl, Int.sub_zero] at r
    rw [if_neg (by decide), r, U.bs, if_pos rfl, w]
    simp
theorem RoundAny : gimballaw03_RoundAny.Pure := by
  intro neg h l a2 more wh wl we
  obtain ⟨h0, h1⟩ := U.wf_u64 wh
  obtain ⟨l0, l1⟩ := U.wf_u64 wl
  obtain ⟨h, rfl⟩ := Int.eq_ofNat_of_zero_le h0
  obtain ⟨l, rfl⟩ := Int.eq_ofNat_of_zero_le l0
  obtain ⟨v, hv, eh, el⟩ : ∃ v : Nat, v < 340282366920938463463374607431768211456 ∧ h = v / 18446744073709551616 ∧ l = v % 18446744073709551616 := ⟨h * 18446744073709551616 + l, by omega, by omega, by omega⟩
  subst eh el
  have cl : mn (mx a2 (-100000)) 100000 = clampE a2 := by
    unfold clampE mx mn; repeat (any_goals split)
    all_goals omega
  refine ⟨50000, ?_⟩
  unfold gimballaw03_RoundAny.f
  have hd := head_eq 49995
  rw [hd, U.bs, if_pos rfl, cl]
  by_cases c1 : clampE a2 < -1500
  · rw [if_pos c1]
    exact law_far 49980 neg v hv _ a2 more rfl (Or.inl c1)
  · rw [if_neg c1]
    by_cases c2 : clampE a2 > 1500
    · rw [decide_eq_true c2]
      exact law_far 49980 neg v hv _ a2 more rfl (Or.inr c2)
    · rw [decide_eq_false c2]
      exact law_near 10000 neg v hv _ a2 more rfl (by omega) (by omega)
end Go.Proofs.Ytlnpcbhbcmhbkaa.Pure
