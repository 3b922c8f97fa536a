/- The law RoundNear of layer 3: what is rounded is no nearer to either of its neighbours than to what it is rounded to, and the flags are none where nothing fell out; no condition beyond the arguments' own ranges. -/
import Derived.Test.YtlnpcbhbcmhbkaaQRoundNearx9
import Derived.Test.YtlnpcbhbcmhbkaaU
import Derived.Test.YtlnpcbhbcmhbkaaUB
import Derived.Test.YtlnpcbhbcmhbkaaUX
set_option linter.unusedSimpArgs false
set_option linter.unusedVariables false
set_option exponentiation.threshold 5000
namespace Go.Proofs.Ytlnpcbhbcmhbkaa.Pure
open Go.RowKit Go.Proofs.Ytlnpcbhbcmhbkaa Go.Proofs.Ytlnpcbhbcmhbkaa.QRoundNear Go.Proofs.YtlnpcbhbcmhbkaaW.PrintWords Go.Proofs.YtlnpcbhbcmhbkaaW.PrintLast
theorem exp_eq (a : Int) (h : 0 ≤ a) (h' : a < 18446744073709551616) : word_Exp.f a = some (a / 4503599627370496 % 2048) := by
  unfold word_Exp.f
  rw [U.and_2047 (by omega) (by omega), U.wrap64_id (by omega) (by omega)]
theorem frac_eq (a : Int) (h : 0 ≤ a) (h' : a < 18446744073709551616) : word_Frac.f a = some (a % 4503599627370496) := by
  unfold word_Frac.f
  rw [U.and_52 h h']
theorem make_eq (s : Bool) (e f : Int) (h : -9223372036854775808 ≤ e) (h' : e < 9223372036854775808) (g : 0 ≤ f) (g' : f < 18446744073709551616) :
    word_Make.f s e f = some ((if s = true then 9223372036854775808 else 0) + e % 2048 * 4503599627370496 + f % 4503599627370496) := by
  unfold word_Make.f
  have e0 : bits .and .u64 (IntKind.u64.wrap e) 2047 = e % 2048 := by
    rw [U.wrap_u64, U.and_2047 (by omega) (by omega)]; omega
  have e1 : IntKind.u64.wrap (bits .and .u64 (IntKind.u64.wrap e) 2047 * 4503599627370496) = e % 2048 * 4503599627370496 := by
    rw [e0]; exact U.wrap_u64_id (by omega) (by omega)
  have e2 : bits .or .u64 (IntKind.u64.wrap (bits .and .u64 (IntKind.u64.wrap e) 2047 * 4503599627370496)) (bits .and .u64 f 4503599627370495) = e % 2048 * 4503599627370496 + f % 4503599627370496 := by
    rw [e1, U.and_52 g g']
    exact U.or_join 52 (by decide) (by omega) (by omega) (by omega) (by omega) (by omega)
  rw [e2]
  cases s
  · simp
  · simp only [if_true]
    rw [U.or_63 (by omega) (by omega)]
    congr 1; omega
def kindOf (a : Int) : Int :=
  if a / 4503599627370496 % 2048 = 0 then (if a % 4503599627370496 = 0 then 1 else 2)
  else if a / 4503599627370496 % 2048 < 2047 then 3 else if a % 4503599627370496 = 0 then 4 else 5
theorem kind_eq (k : Nat) (a : Int) (h : 0 ≤ a) (h' : a < 18446744073709551616) : word_Kind.f (k + 1) a = some (kindOf a) := by
  unfold word_Kind.f
  rw [exp_eq a h h', frac_eq a h h']
  simp only [Option.bind_some, word_Kind.j0, kindOf]
  by_cases h1 : a / 4503599627370496 % 2048 = 0
  · by_cases h2 : a % 4503599627370496 = 0 <;> simp [h1, h2]
  · simp [h1]
    repeat (any_goals split)
    all_goals simp
theorem parts_eq (k : Nat) (a : Int) (h : 0 ≤ a) (h' : a < 18446744073709551616) :
    word_Parts.f (k + 1) a = some (if kindOf a = 2 then (a % 4503599627370496, -1074) else if kindOf a = 3 then (a % 4503599627370496 + 4503599627370496, a / 4503599627370496 % 2048 - 1075) else (0, 0)) := by
  unfold word_Parts.f
  rw [kind_eq k a h h', exp_eq a h h', frac_eq a h h']
  simp only [Option.bind_some]
  rw [U.or_52 (by omega) (by omega), U.wrap64_id (by omega) (by omega)]
  by_cases h2 : kindOf a = 2
  · rw [if_pos h2, if_pos h2]
  · rw [if_neg h2, if_neg h2]
    by_cases h3 : kindOf a = 3
    · rw [if_pos h3, if_pos h3]
    · rw [if_neg h3, if_neg h3]
theorem finite_eq (a : Int) (h : 0 ≤ a) (h' : a < 18446744073709551616) : word_Finite.f a = some (decide (a / 4503599627370496 % 2048 < 2047)) := by
  unfold word_Finite.f
  rw [exp_eq a h h']
  rfl
theorem neg_eq (a : Int) (h : 0 ≤ a) (h' : a < 18446744073709551616) : word_Neg.f a = some (decide (9223372036854775808 ≤ a)) := by
  unfold word_Neg.f
  congr 1
  by_cases h1 : 9223372036854775808 ≤ a
  · have : a / 9223372036854775808 = 1 := by omega
    simp [h1, this]
  · have : a / 9223372036854775808 = 0 := by omega
    simp [h1, this]
def flipOf (a : Int) : Int := if a < 9223372036854775808 then a + 9223372036854775808 else a - 9223372036854775808
theorem flip_eq (a : Int) (h : 0 ≤ a) (h' : a < 18446744073709551616) : word_Flip.f a = some (flipOf a) := by
  unfold word_Flip.f flipOf
  rw [U.xor_63 h h']
theorem flip_bd (a : Int) (h : 0 ≤ a) (h' : a < 18446744073709551616) : 0 ≤ flipOf a ∧ flipOf a < 18446744073709551616 := by
  unfold flipOf; split <;> omega
def nextOf (a : Int) : Int :=
  if kindOf a = 5 ∨ a = 9218868437227405312 then a else if a = 9223372036854775808 then 1 else if 9223372036854775808 ≤ a then a - 1 else a + 1
theorem next_eq (k : Nat) (a : Int) (h : 0 ≤ a) (h' : a < 18446744073709551616) : word_Next.f (k + 1) a = some (nextOf a) := by
  unfold word_Next.f nextOf
  rw [kind_eq k a h h']
  simp only [Option.bind_some, word_Next.j0]
  rw [neg_eq a h h']
  simp only [Option.bind_some]
  by_cases h1 : kindOf a = 5
  · simp [h1]
  · by_cases h2 : a = 9218868437227405312
    · simp [h1, h2]
    · by_cases h3 : a = 9223372036854775808
      · rw [if_neg h1, if_neg (by simp [h1, h2]), if_pos h3]
        rw [if_neg (by simp [h1, h2]), if_pos h3]
      · by_cases h4 : 9223372036854775808 ≤ a
        · have e : IntKind.u64.wrap (a - 1) = a - 1 := U.wrap_u64_id (by omega) (by omega)
          simp [h1, h2, h3, h4, e]
        · have e : IntKind.u64.wrap (a + 1) = a + 1 := U.wrap_u64_id (by omega) (by omega)
          simp [h1, h2, h3, h4, e]
def prevOf (a : Int) : Int := if kindOf a = 5 then a else flipOf (nextOf (flipOf a))
theorem next_bd (a : Int) (h : 0 ≤ a) (h' : a < 18446744073709551616) : 0 ≤ nextOf a ∧ nextOf a < 18446744073709551616 := by
  unfold nextOf; split
  · omega
  · split
    · omega
    · split <;> omega
theorem prev_eq (k : Nat) (a : Int) (h : 0 ≤ a) (h' : a < 18446744073709551616) : word_Prev.f (k + 1) a = some (prevOf a) := by
  have hf := flip_bd a h h'
  have hn := next_bd _ hf.1 hf.2
  have e1 := flip_eq a h h'
  have e2 := next_eq k _ hf.1 hf.2
  have e3 := flip_eq _ hn.1 hn.2
  unfold word_Prev.f prevOf
  rw [kind_eq k a h h', Option.bind_some]
  by_cases hk : kindOf a = 5
  · rw [if_pos hk, if_pos hk]
  · rw [if_neg hk, if_neg hk, e1, Option.bind_some, e2, Option.bind_some, e3, Option.bind_some]
theorem kind5 (a : Int) (h : 0 ≤ a) (h' : a < 18446744073709551616) : kindOf a = 5 ↔ 9218868437227405312 < a % 9223372036854775808 := by
  unfold kindOf
  repeat (any_goals split)
  all_goals omega
theorem next_form (a : Int) (h : 0 ≤ a) (h' : a < 18446744073709551616) : nextOf a = if 9218868437227405312 ≤ a ∧ a < 9223372036854775808 ∨ 18442240474082181120 < a then a else if a = 9223372036854775808 then 1 else if 9223372036854775808 ≤ a then a - 1 else a + 1 := by
  have k := kind5 a h h'
  unfold nextOf
  by_cases h1 : kindOf a = 5 ∨ a = 9218868437227405312
  · rw [if_pos h1, if_pos (by omega)]
  · have h2 : ¬ kindOf a = 5 := fun e => h1 (Or.inl e)
    have h3 : ¬ a = 9218868437227405312 := fun e => h1 (Or.inr e)
    rw [if_neg h1]
    rw [k] at h2
    have h5 : ¬ (9218868437227405312 ≤ a ∧ a < 9223372036854775808 ∨ 18442240474082181120 < a) := by omega
    rw [if_neg h5]
theorem prev_form (a : Int) (h : 0 ≤ a) (h' : a < 18446744073709551616) : prevOf a = if 9218868437227405312 < a ∧ a < 9223372036854775808 ∨ 18442240474082181120 ≤ a then a else if a = 0 then 9223372036854775809 else if 9223372036854775808 ≤ a then a + 1 else a - 1 := by
  have k := kind5 a h h'
  have hf := flip_bd a h h'
  unfold prevOf
  rw [next_form _ hf.1 hf.2]
  unfold flipOf
  repeat (any_goals split)
  all_goals omega
theorem shl_pow (x : Nat) (s : Nat) (hs : s ≤ 64) : shl .u64 (x : Int) (s : Int) = ((x * 2 ^ s % 18446744073709551616 : Nat) : Int) := by
  unfold shl
  rw [Int.toNat_natCast, Nat.min_eq_left (by show s ≤ 64; exact hs), U.wrap_u64]
  have : (x : Int) * 2 ^ s = ((x * 2 ^ s : Nat) : Int) := by simp
  rw [this]; omega
theorem shr_pow (x : Nat) (s : Nat) (hs : s ≤ 64) : shr .u64 (x : Int) (s : Int) = ((x / 2 ^ s : Nat) : Int) := by
  unfold shr
  rw [Int.toNat_natCast, Nat.min_eq_left (by show s ≤ 64; exact hs)]
  simp
theorem or_nat (i x y : Nat) (hi : i ≤ 64) (hx : x % 2 ^ i = 0) (hx1 : x < 18446744073709551616) (hy : y < 2 ^ i) : bits .or .u64 (x : Int) (y : Int) = ((x + y : Nat) : Int) := by
  have z : (x : Int) % 2 ^ i = 0 := by
    have c : ((2 : Int) ^ i) = ((2 ^ i : Nat) : Int) := by simp
    rw [c]; omega
  have lt : (y : Int) < 2 ^ i := by
    have c : ((2 : Int) ^ i) = ((2 ^ i : Nat) : Int) := by simp
    rw [c]; omega
  rw [U.or_join i hi (by omega) z (by omega) (by omega) lt]; omega
theorem pow_split (s : Nat) (hs : s ≤ 64) : 2 ^ s * 2 ^ (64 - s) = 18446744073709551616 := by
  rw [← Nat.pow_add]
  have : s + (64 - s) = 64 := by omega
  rw [this]
theorem p64 : (2 : Nat) ^ 64 = 18446744073709551616 := by decide
theorem p128 : (2 : Nat) ^ 128 = 18446744073709551616 * 18446744073709551616 := by decide
theorem mod_split (x P Q : Nat) (hPQ : P * Q = 18446744073709551616) : x * Q % 18446744073709551616 = x % P * Q := by rw [← hPQ, Nat.mul_mod_mul_right]
theorem ne_pair (a b c d : Int) : (!(a == c) || !(b == d)) = !(decide (a = c ∧ b = d)) := by
  by_cases h1 : a = c
  · by_cases h2 : b = d
    · simp [h1, h2]
    · simp [h1, h2]
  · simp [h1]
/-- The high word of h B + l times 2^s, and the low one. -/
theorem left_arith (h l P Q : Nat) (hPQ : P * Q = 18446744073709551616) (hP : 0 < P) (hQ : 0 < Q) (hl : l < 18446744073709551616) :
    ((h * 18446744073709551616 + l) * P / 18446744073709551616 % 18446744073709551616 = h * P % 18446744073709551616 + l / Q) ∧
    ((h * 18446744073709551616 + l) * P % 18446744073709551616 = l * P % 18446744073709551616) ∧ h * P % 18446744073709551616 % P = 0 ∧ l / Q < P ∧ h * P % 18446744073709551616 + l / Q < 18446744073709551616 := by
  have e1 : (h * 18446744073709551616 + l) * P = h * P * 18446744073709551616 + l * P := by rw [Nat.add_mul]; congr 1; rw [Nat.mul_assoc, Nat.mul_comm 18446744073709551616, ← Nat.mul_assoc]
  have d1 : l = Q * (l / Q) + l % Q := (Nat.div_add_mod l Q).symm
  have m1 : l % Q < Q := Nat.mod_lt _ hQ
  have e2 : l * P = 18446744073709551616 * (l / Q) + l % Q * P := by
    conv => lhs; rw [d1]
    rw [Nat.add_mul, ← hPQ, Nat.mul_comm Q, Nat.mul_assoc, Nat.mul_comm (l / Q), Nat.mul_comm Q P]
  have b2 : l % Q * P < 18446744073709551616 := by
    rw [← hPQ, Nat.mul_comm P Q]; exact Nat.mul_lt_mul_of_pos_right m1 hP
  have e3 : l / Q < P := by
    rw [Nat.div_lt_iff_lt_mul hQ]; omega
  have d2 : h * P % 18446744073709551616 = h % Q * P := by
    conv => lhs; rw [← hPQ, Nat.mul_comm h P, Nat.mul_mod_mul_left, Nat.mul_comm]
  have m2 : h % Q < Q := Nat.mod_lt _ hQ
  have b3 : h % Q * P + P ≤ 18446744073709551616 := by
    have : (h % Q + 1) * P ≤ Q * P := Nat.mul_le_mul_right P m2
    rw [Nat.add_mul, Nat.one_mul, Nat.mul_comm Q P, hPQ] at this
    exact this
  refine ⟨?_, ?_, ?_, e3, by omega⟩
  · rw [e1, e2]; omega
  · rw [e1]; omega
  · rw [d2, Nat.mul_mod_left]
theorem left_eq (v : Nat) (hv : v < 340282366920938463463374607431768211456) (n : Int) (hn : -9223372036854775808 ≤ n) (hn' : n < 9223372036854775808) :
    wide_Wide_Left.f ((v / 18446744073709551616 : Nat) : Int) ((v % 18446744073709551616 : Nat) : Int) n = some (((v * 2 ^ n.toNat / 18446744073709551616 % 18446744073709551616 : Nat) : Int), ((v * 2 ^ n.toNat % 18446744073709551616 : Nat) : Int)) := by
  unfold wide_Wide_Left.f
  by_cases h0 : n ≤ 0
  · have : n.toNat = 0 := by omega
    rw [if_pos h0, this, Nat.pow_zero, Nat.mul_one]
    congr 2; omega
  · rw [if_neg h0]
    obtain ⟨s, rfl⟩ := Int.eq_ofNat_of_zero_le (by omega : 0 ≤ n)
    rw [Int.toNat_natCast]
    by_cases h1 : (s : Int) ≥ 128
    · rw [if_pos h1]
      obtain ⟨t, rfl⟩ : ∃ t, s = t + 128 := ⟨s - 128, by omega⟩
      have e : v * 2 ^ (t + 128) = v * 2 ^ t * 18446744073709551616 * 18446744073709551616 := by
        rw [Nat.pow_add, p128, ← Nat.mul_assoc, ← Nat.mul_assoc]
      rw [e]
      generalize v * 2 ^ t = z
      have z1 : z * 18446744073709551616 * 18446744073709551616 / 18446744073709551616 % 18446744073709551616 = 0 := by omega
      have z2 : z * 18446744073709551616 * 18446744073709551616 % 18446744073709551616 = 0 := by omega
      rw [z1, z2]; rfl
    · rw [if_neg h1]
      by_cases h2 : (s : Int) ≥ 64
      · obtain ⟨t, rfl⟩ : ∃ t, s = t + 64 := ⟨s - 64, by omega⟩
        have hw : wrap64 (((t + 64 : Nat) : Int) - 64) = (t : Int) := by rw [U.wrap64_id (by omega) (by omega)]; omega
        rw [if_pos h2, hw, if_pos (by omega), shl_pow _ _ (by omega)]
        have e : v * 2 ^ (t + 64) = v * 2 ^ t * 18446744073709551616 := by
          rw [Nat.pow_add, p64, ← Nat.mul_assoc]
        have e2 : v % 18446744073709551616 * 2 ^ t % 18446744073709551616 = v * 2 ^ t % 18446744073709551616 := Nat.mod_mul_mod _ _ _
        rw [e, e2]
        generalize v * 2 ^ t = z
        have z1 : z * 18446744073709551616 / 18446744073709551616 % 18446744073709551616 = z % 18446744073709551616 := by omega
        have z2 : z * 18446744073709551616 % 18446744073709551616 = 0 := by omega
        rw [z1, z2]; rfl
      · have hw : wrap64 (64 - (s : Int)) = ((64 - s : Nat) : Int) := by rw [U.wrap64_id (by omega) (by omega)]; omega
        obtain ⟨a1, a2, a3, a4, a5⟩ := left_arith (v / 18446744073709551616) (v % 18446744073709551616) (2 ^ s) (2 ^ (64 - s)) (pow_split s (by omega)) (Nat.two_pow_pos _) (Nat.two_pow_pos _) (by omega)
        rw [if_neg h2, if_pos (by omega), hw, if_pos (by omega), shl_pow _ _ (by omega), shl_pow _ _ (by omega), shr_pow _ _ (by omega),
          or_nat s _ _ (by omega) a3 (by omega) a4]
        have ev : v / 18446744073709551616 * 18446744073709551616 + v % 18446744073709551616 = v := by omega
        rw [ev] at a1 a2
        rw [a1, a2]
theorem wzero_eq (v : Nat) (hv : v < 340282366920938463463374607431768211456) : wide_Wide_Zero.f ((v / 18446744073709551616 : Nat) : Int) ((v % 18446744073709551616 : Nat) : Int) = some (decide (v = 0)) := by
  unfold wide_Wide_Zero.f
  rw [u64_or_nat _ _ (by omega) (by omega)]
  congr 1
  rw [Bool.eq_iff_iff]
  simp only [beq_iff_eq, decide_eq_true_eq]
  constructor
  · intro h
    have h1 : v / 18446744073709551616 ||| v % 18446744073709551616 = 0 := by omega
    have := Nat.or_eq_zero_iff.mp h1
    omega
  · rintro rfl; decide
theorem right_eq (v : Nat) (hv : v < 340282366920938463463374607431768211456) (n : Int) (hn : -9223372036854775808 ≤ n) (hn' : n < 9223372036854775808) :
    wide_Wide_Right.f ((v / 18446744073709551616 : Nat) : Int) ((v % 18446744073709551616 : Nat) : Int) n = some (((v / 2 ^ n.toNat / 18446744073709551616 : Nat) : Int), ((v / 2 ^ n.toNat % 18446744073709551616 : Nat) : Int), decide (v % 2 ^ n.toNat ≠ 0)) := by
  unfold wide_Wide_Right.f
  by_cases h0 : n ≤ 0
  · have : n.toNat = 0 := by omega
    rw [if_pos h0, this, Nat.pow_zero, Nat.div_one, Nat.mod_one]
    simp
  · rw [if_neg h0]
    obtain ⟨s, rfl⟩ := Int.eq_ofNat_of_zero_le (by omega : 0 ≤ n)
    have hz := left_eq 0 (by decide) (s : Int) hn hn'
    rw [Int.toNat_natCast] at hz ⊢
    have hp := Nat.two_pow_pos s
    by_cases h1 : (s : Int) ≥ 128
    · have big : v < 2 ^ s := Nat.lt_of_lt_of_le hv (by
        have : 2 ^ 128 ≤ 2 ^ s := Nat.pow_le_pow_right (by decide) (by omega)
        exact this)
      rw [Nat.zero_div, Nat.zero_mod, Nat.zero_mul, Nat.zero_div, Nat.zero_mod, Int.natCast_zero] at hz
      rw [if_pos h1, hz, U.bs, Nat.div_eq_of_lt big, Nat.mod_eq_of_lt big, wzero_eq v hv, U.bs]
      by_cases hv0 : v = 0
      · subst hv0; decide
      · have : (!((0 : Int) == ((v / 18446744073709551616 : Nat) : Int)) || !((0 : Int) == ((v % 18446744073709551616 : Nat) : Int))) = true := by
          simp; omega
        rw [if_pos this]
        simp [hv0]
    · have q : v / 2 ^ s * 2 ^ s ≤ v := Nat.div_mul_le_self v (2 ^ s)
      have dm := Nat.div_add_mod v (2 ^ s)
      rw [Nat.mul_comm] at dm
      have hvs : v / 2 ^ s ≤ v := Nat.div_le_self v _
      have l := left_eq (v / 2 ^ s) (by omega) (s : Int) hn hn'
      rw [Int.toNat_natCast] at l
      have key : ∀ x y : Int, x = ((v / 2 ^ s / 18446744073709551616 : Nat) : Int) → y = ((v / 2 ^ s % 18446744073709551616 : Nat) : Int) →
          ((wide_Wide_Left.f x y (s : Int)).bind fun bt => if (!(bt.1 == ((v / 18446744073709551616 : Nat) : Int)) || !(bt.2 == ((v % 18446744073709551616 : Nat) : Int))) = true then some (x, y, true) else some (x, y, false)) = some (((v / 2 ^ s / 18446744073709551616 : Nat) : Int), ((v / 2 ^ s % 18446744073709551616 : Nat) : Int), decide (v % 2 ^ s ≠ 0)) := by
        rintro x y rfl rfl
        rw [l, U.bs]
        simp only
        rw [ne_pair]
        by_cases hr : v % 2 ^ s = 0
        · have : v / 2 ^ s * 2 ^ s = v := by omega
          have c : ((v / 2 ^ s * 2 ^ s / 18446744073709551616 % 18446744073709551616 : Nat) : Int) = ((v / 18446744073709551616 : Nat) : Int) ∧ ((v / 2 ^ s * 2 ^ s % 18446744073709551616 : Nat) : Int) = ((v % 18446744073709551616 : Nat) : Int) := by rw [this]; omega
          rw [decide_eq_true c, hr]; rfl
        · have c : ¬ (((v / 2 ^ s * 2 ^ s / 18446744073709551616 % 18446744073709551616 : Nat) : Int) = ((v / 18446744073709551616 : Nat) : Int) ∧ ((v / 2 ^ s * 2 ^ s % 18446744073709551616 : Nat) : Int) = ((v % 18446744073709551616 : Nat) : Int)) := by
            generalize v / 2 ^ s * 2 ^ s = z at *
            generalize v % 2 ^ s = y at *
            omega
          rw [decide_eq_false c, decide_eq_true (show v % 2 ^ s ≠ 0 from hr)]; rfl
      rw [if_neg h1]
      by_cases h2 : (s : Int) ≥ 64
      · obtain ⟨t, rfl⟩ : ∃ t, s = t + 64 := ⟨s - 64, by omega⟩
        have hw : wrap64 (((t + 64 : Nat) : Int) - 64) = (t : Int) := by rw [U.wrap64_id (by omega) (by omega)]; omega
        have e : v / 2 ^ (t + 64) = v / 18446744073709551616 / 2 ^ t := by
          rw [Nat.pow_add, p64, Nat.mul_comm, ← Nat.div_div_eq_div_mul]
        have lt : v / 18446744073709551616 / 2 ^ t < 18446744073709551616 := by
          have := Nat.div_le_self (v / 18446744073709551616) (2 ^ t); omega
        rw [if_pos h2, hw, if_pos (by omega), shr_pow _ _ (by omega)]
        refine key 0 _ ?_ ?_
        · rw [e]; generalize v / 18446744073709551616 / 2 ^ t = z at lt; omega
        · rw [e]; generalize v / 18446744073709551616 / 2 ^ t = z at lt; omega
      · have hw : wrap64 (64 - (s : Int)) = ((64 - s : Nat) : Int) := by rw [U.wrap64_id (by omega) (by omega)]; omega
        have hPQ := pow_split s (by omega)
        have hQ := Nat.two_pow_pos (64 - s)
        rw [if_neg h2, if_pos (by omega), hw, if_pos (by omega), shl_pow _ _ (by omega), shr_pow _ _ (by omega), shr_pow _ _ (by omega)]
        have d2 := mod_split (v / 18446744073709551616) (2 ^ s) (2 ^ (64 - s)) hPQ
        have lq : v % 18446744073709551616 / 2 ^ s < 2 ^ (64 - s) := by
          rw [Nat.div_lt_iff_lt_mul hp, Nat.mul_comm, hPQ]; exact Nat.mod_lt _ (by decide)
        have ms : v / 18446744073709551616 % 2 ^ s < 2 ^ s := Nat.mod_lt _ hp
        have b3 : v / 18446744073709551616 % 2 ^ s * 2 ^ (64 - s) + 2 ^ (64 - s) ≤ 18446744073709551616 := by
          have : (v / 18446744073709551616 % 2 ^ s + 1) * 2 ^ (64 - s) ≤ 2 ^ s * 2 ^ (64 - s) := Nat.mul_le_mul_right _ ms
          rw [Nat.add_mul, Nat.one_mul, hPQ] at this
          exact this
        rw [d2, or_nat (64 - s) _ _ (by omega) (Nat.mul_mod_left _ _) (by omega) lq]
        have ev : v = v / 18446744073709551616 * 18446744073709551616 + v % 18446744073709551616 := by omega
        have e : v / 2 ^ s = v / 18446744073709551616 / 2 ^ s * 18446744073709551616 + (v / 18446744073709551616 % 2 ^ s * 2 ^ (64 - s) + v % 18446744073709551616 / 2 ^ s) := by
          have dh := Nat.div_add_mod (v / 18446744073709551616) (2 ^ s)
          have e1 : v = 2 ^ s * (v / 18446744073709551616 / 2 ^ s * 18446744073709551616 + v / 18446744073709551616 % 2 ^ s * 2 ^ (64 - s)) + v % 18446744073709551616 := by
            conv => lhs; rw [ev]
            congr 1
            conv => lhs; rw [← dh]
            rw [Nat.add_mul, Nat.mul_add, Nat.mul_assoc]
            congr 1
            rw [← Nat.mul_assoc, Nat.mul_comm (2 ^ s) (v / 18446744073709551616 % 2 ^ s), Nat.mul_assoc, hPQ]
          conv => lhs; rw [e1]
          rw [Nat.mul_add_div hp]
          omega
        have b4 : v / 18446744073709551616 % 2 ^ s * 2 ^ (64 - s) + v % 18446744073709551616 / 2 ^ s < 18446744073709551616 := by omega
        refine key _ _ ?_ ?_
        · rw [e]
          generalize v / 18446744073709551616 % 2 ^ s * 2 ^ (64 - s) + v % 18446744073709551616 / 2 ^ s = y at b4
          generalize v / 18446744073709551616 / 2 ^ s = x
          omega
        · rw [e]
          generalize v / 18446744073709551616 % 2 ^ s * 2 ^ (64 - s) + v % 18446744073709551616 / 2 ^ s = y at b4
          generalize v / 18446744073709551616 / 2 ^ s = x
          omega
theorem wadd_eq (v u : Nat) (hv : v < 340282366920938463463374607431768211456) (hu : u < 340282366920938463463374607431768211456) :
    wide_Wide_Add.f ((v / 18446744073709551616 : Nat) : Int) ((v % 18446744073709551616 : Nat) : Int) ((u / 18446744073709551616 : Nat) : Int) ((u % 18446744073709551616 : Nat) : Int) =
      some ((((v + u) % 340282366920938463463374607431768211456 / 18446744073709551616 : Nat) : Int), (((v + u) % 340282366920938463463374607431768211456 % 18446744073709551616 : Nat) : Int), decide (340282366920938463463374607431768211456 ≤ v + u)) := by
  unfold wide_Wide_Add.f bits_Add64.f UX.addF
  rw [if_pos (by omega), U.bs, if_pos (by omega), U.bs]
  congr 2
  · omega
  · congr 1
    · omega
    · rw [Bool.eq_iff_iff]; simp only [beq_iff_eq, decide_eq_true_eq]; omega
theorem bitLen_blen (n : Nat) : bitLen n = U.blen n := by
  obtain ⟨h1, h2⟩ := bitLen_spec n
  have a := (U.blen_le (bitLen n) n).2 h1
  by_cases h : n = 0
  · subst h; rw [U.blen_zero]; rfl
  · have b := (U.blen_le (bitLen n - 1) n)
    have c := h2 h
    have d : bitLen n ≠ 0 := by
      intro e; rw [e] at h1; omega
    omega
set_option maxRecDepth 100000 in
theorem bt_len8 (i : Nat) (h : i < 256) : bt (⟨#[0, 1, 2, 2, 3, 3, 3, 3, 4, 4, 4, 4, 4, 4, 4, 4, 5, 5, 5, 5, 5, 5, 5, 5, 5, 5, 5, 5, 5, 5, 5, 5, 6, 6, 6, 6, 6, 6, 6, 6, 6, 6, 6, 6, 6, 6, 6, 6, 6, 6, 6, 6, 6, 6, 6, 6, 6, 6, 6, 6, 6, 6, 6, 6, 7, 7, 7, 7, 7, 7, 7, 7, 7, 7, 7, 7, 7, 7, 7, 7, 7, 7, 7, 7, 7, 7, 7, 7, 7, 7, 7, 7, 7, 7, 7, 7, 7, 7, 7, 7, 7, 7, 7, 7, 7, 7, 7, 7, 7, 7, 7, 7, 7, 7, 7, 7, 7, 7, 7, 7, 7, 7, 7, 7, 7, 7, 7, 7, 8, 8, 8, 8, 8, 8, 8, 8, 8, 8, 8, 8, 8, 8, 8, 8, 8, 8, 8, 8, 8, 8, 8, 8, 8, 8, 8, 8, 8, 8, 8, 8, 8, 8, 8, 8, 8, 8, 8, 8, 8, 8, 8, 8, 8, 8, 8, 8, 8, 8, 8, 8, 8, 8, 8, 8, 8, 8, 8, 8, 8, 8, 8, 8, 8, 8, 8, 8, 8, 8, 8, 8, 8, 8, 8, 8, 8, 8, 8, 8, 8, 8, 8, 8, 8, 8, 8, 8, 8, 8, 8, 8, 8, 8, 8, 8, 8, 8, 8, 8, 8, 8, 8, 8, 8, 8, 8, 8, 8, 8, 8, 8, 8, 8, 8, 8, 8, 8, 8, 8, 8, 8, 8, 8, 8, 8, 8, 8]⟩ : ByteArray) (i : Int) = ((U.blen i : Nat) : Int) := by
  unfold bt
  have hs : (i : Int).toNat < ((⟨#[0, 1, 2, 2, 3, 3, 3, 3, 4, 4, 4, 4, 4, 4, 4, 4, 5, 5, 5, 5, 5, 5, 5, 5, 5, 5, 5, 5, 5, 5, 5, 5, 6, 6, 6, 6, 6, 6, 6, 6, 6, 6, 6, 6, 6, 6, 6, 6, 6, 6, 6, 6, 6, 6, 6, 6, 6, 6, 6, 6, 6, 6, 6, 6, 7, 7, 7, 7, 7, 7, 7, 7, 7, 7, 7, 7, 7, 7, 7, 7, 7, 7, 7, 7, 7, 7, 7, 7, 7, 7, 7, 7, 7, 7, 7, 7, 7, 7, 7, 7, 7, 7, 7, 7, 7, 7, 7, 7, 7, 7, 7, 7, 7, 7, 7, 7, 7, 7, 7, 7, 7, 7, 7, 7, 7, 7, 7, 7, 8, 8, 8, 8, 8, 8, 8, 8, 8, 8, 8, 8, 8, 8, 8, 8, 8, 8, 8, 8, 8, 8, 8, 8, 8, 8, 8, 8, 8, 8, 8, 8, 8, 8, 8, 8, 8, 8, 8, 8, 8, 8, 8, 8, 8, 8, 8, 8, 8, 8, 8, 8, 8, 8, 8, 8, 8, 8, 8, 8, 8, 8, 8, 8, 8, 8, 8, 8, 8, 8, 8, 8, 8, 8, 8, 8, 8, 8, 8, 8, 8, 8, 8, 8, 8, 8, 8, 8, 8, 8, 8, 8, 8, 8, 8, 8, 8, 8, 8, 8, 8, 8, 8, 8, 8, 8, 8, 8, 8, 8, 8, 8, 8, 8, 8, 8, 8, 8, 8, 8, 8, 8, 8, 8, 8, 8, 8, 8]⟩ : ByteArray)).size := by rw [Int.toNat_natCast]; exact h
  rw [dif_pos hs]
  have := len8tab_get (i : Int).toNat hs
  rw [this, Int.toNat_natCast, bitLen_blen]
theorem blen_shift (x b : Nat) (h : x / 2 ^ b ≠ 0) : U.blen x = b + U.blen (x / 2 ^ b) := by
  rw [← bitLen_blen, ← bitLen_blen]; exact bitLen_shift x b h
theorem len64_j0 (k x y : Nat) (hx : x < 4294967296) (hy : y ≤ 32) : bits_Len64.j0 (k + 1) (x : Int) (y : Int) = some ((y + U.blen x : Nat) : Int) := by
  have w1 : wrap64 ((y : Int) + 16) = (y : Int) + 16 := U.wrap64_id (by omega) (by omega)
  have w2 : wrap64 ((y : Int) + 8) = (y : Int) + 8 := U.wrap64_id (by omega) (by omega)
  have w3 : wrap64 ((y : Int) + 16 + 8) = (y : Int) + 16 + 8 := U.wrap64_id (by omega) (by omega)
  have small : ∀ i : Nat, i < 256 → U.blen i ≤ 8 := fun i hi => (U.blen_le 8 i).2 hi
  rw [bits_Len64.j0]
  by_cases h1 : (x : Int) ≥ 65536
  · rw [if_pos h1]
    have e1 : (x : Int) / 65536 = ((x / 65536 : Nat) : Int) := by omega
    have s1 := blen_shift x 16 (by show x / 65536 ≠ 0; omega)
    rw [show (2 : Nat) ^ 16 = 65536 from rfl] at s1
    rw [e1]
    by_cases h2 : ((x / 65536 : Nat) : Int) ≥ 256
    · have s2 := blen_shift (x / 65536) 8 (by show x / 65536 / 256 ≠ 0; omega)
      rw [show (2 : Nat) ^ 8 = 256 from rfl] at s2
      have e2 : ((x / 65536 : Nat) : Int) / 256 % 256 = ((x / 65536 / 256 : Nat) : Int) := by omega
      have b := small (x / 65536 / 256) (by omega)
      rw [if_pos h2, e2, if_pos (by omega), if_pos (by omega), bt_len8 _ (by omega), w1, w3]
      rw [U.wrap64_id (a := ((U.blen (x / 65536 / 256) : Nat) : Int)) (by omega) (by omega), U.wrap64_id (by omega) (by omega)]
      exact congrArg some (by omega)
    · have e2 : ((x / 65536 : Nat) : Int) % 256 = ((x / 65536 : Nat) : Int) := by omega
      have b := small (x / 65536) (by omega)
      rw [if_neg h2, e2, if_pos (by omega), if_pos (by omega), bt_len8 _ (by omega), w1]
      rw [U.wrap64_id (a := ((U.blen (x / 65536) : Nat) : Int)) (by omega) (by omega), U.wrap64_id (by omega) (by omega)]
      exact congrArg some (by omega)
  · rw [if_neg h1]
    by_cases h2 : (x : Int) ≥ 256
    · have s2 := blen_shift x 8 (by show x / 256 ≠ 0; omega)
      rw [show (2 : Nat) ^ 8 = 256 from rfl] at s2
      have e2 : (x : Int) / 256 % 256 = ((x / 256 : Nat) : Int) := by omega
      have b := small (x / 256) (by omega)
      rw [if_pos h2, e2, if_pos (by omega), if_pos (by omega), bt_len8 _ (by omega), w2]
      rw [U.wrap64_id (a := ((U.blen (x / 256) : Nat) : Int)) (by omega) (by omega), U.wrap64_id (by omega) (by omega)]
      exact congrArg some (by omega)
    · have e2 : (x : Int) % 256 = ((x : Nat) : Int) := by omega
      have b := small x (by omega)
      rw [if_neg h2, e2, if_pos (by omega), if_pos (by omega), bt_len8 _ (by omega)]
      rw [U.wrap64_id (a := ((U.blen x : Nat) : Int)) (by omega) (by omega), U.wrap64_id (by omega) (by omega)]
      exact congrArg some (by omega)
theorem len64_eq (k x : Nat) (hx : x < 18446744073709551616) : bits_Len64.f (k + 1) (x : Int) = some ((U.blen x : Nat) : Int) := by
  unfold bits_Len64.f
  by_cases h : (x : Int) ≥ 4294967296
  · have e : (x : Int) / 4294967296 = ((x / 4294967296 : Nat) : Int) := by omega
    have s := blen_shift x 32 (by show x / 4294967296 ≠ 0; omega)
    rw [show (2 : Nat) ^ 32 = 4294967296 from rfl] at s
    have j := len64_j0 k (x / 4294967296) 32 (by omega) (by omega)
    rw [show ((32 : Nat) : Int) = 32 from rfl] at j
    rw [if_pos h, e, j, s]
  · have j := len64_j0 k x 0 (by omega) (by omega)
    rw [Nat.zero_add] at j
    rw [if_neg h]; exact j
theorem wlen_eq (k v : Nat) (hv : v < 340282366920938463463374607431768211456) : wide_Wide_Len.f (k + 1) ((v / 18446744073709551616 : Nat) : Int) ((v % 18446744073709551616 : Nat) : Int) = some ((U.blen v : Nat) : Int) := by
  unfold wide_Wide_Len.f
  by_cases h : ((v / 18446744073709551616 : Nat) : Int) = 0
  · rw [if_pos h, len64_eq k _ (by omega), U.bs]
    have : v % 18446744073709551616 = v := by omega
    rw [this]
  · have s := blen_shift v 64 (by rw [p64]; omega)
    rw [p64] at s
    have b := (U.blen_le 64 (v / 18446744073709551616)).2 (by omega)
    rw [if_neg h, len64_eq k _ (by omega), U.bs, U.wrap64_id (by omega) (by omega), s]
    rfl
theorem rsplit_eq (v d : Nat) (hv : v < 340282366920938463463374607431768211456) (hd : 0 < d) (hd2 : d < 1000000) (hv0 : v ≠ 0) :
    round_split.f ((v / 18446744073709551616 : Nat) : Int) ((v % 18446744073709551616 : Nat) : Int) (d : Int) (decide (v % 2 ^ d ≠ 0)) = some (decide (v / 2 ^ (d - 1) % 2 = 1), decide (v % 2 ^ (d - 1) ≠ 0)) := by
  unfold round_split.f
  by_cases h : (d : Int) > 128
  · have big : ∀ t, 128 ≤ t → v < 2 ^ t := fun t ht => Nat.lt_of_lt_of_le hv (by
      have : 2 ^ 128 ≤ 2 ^ t := Nat.pow_le_pow_right (by decide) ht
      rw [p128] at this; exact this)
    rw [if_pos h, Nat.mod_eq_of_lt (big d (by omega)), Nat.mod_eq_of_lt (big (d - 1) (by omega)), Nat.div_eq_of_lt (big (d - 1) (by omega))]
    simp
  · have w : wrap64 ((d : Int) - 1) = ((d - 1 : Nat) : Int) := by rw [U.wrap64_id (by omega) (by omega)]; omega
    have r := right_eq v hv ((d - 1 : Nat) : Int) (by omega) (by omega)
    rw [Int.toNat_natCast] at r
    rw [if_neg h, w, r, U.bs]
    simp only
    rw [U.and_1 (by omega) (by omega)]
    congr 2
    rw [Bool.eq_iff_iff]
    simp only [beq_iff_eq, decide_eq_true_eq]
    generalize v / 2 ^ (d - 1) = z
    omega
/-- How many bits fall out. -/
def rDrop (L e : Int) : Int := if e + (L - 53) < -1074 then -1074 - e else L - 53
/-- Half of the last place falls out, or more is told: is one added? -/
def rUp (v d : Nat) (more : Bool) : Bool := decide (v / 2 ^ (d - 1) % 2 = 1) && (decide (v % 2 ^ (d - 1) ≠ 0) || more || decide (v / 2 ^ d % 2 = 1))
def rM (v : Nat) (drop : Int) (more : Bool) : Nat :=
  if 0 < drop then v / 2 ^ drop.toNat + (if rUp v drop.toNat more then 1 else 0) else v * 2 ^ (-drop).toNat
def rLost (v : Nat) (drop : Int) (more : Bool) : Bool := (decide (0 < drop) && decide (v % 2 ^ drop.toNat ≠ 0)) || more
/-- The pattern, without its sign, before infinity is looked at. -/
def rPat (v : Nat) (e : Int) (more : Bool) : Nat := (e + rDrop (U.blen v) e + 1074).toNat * 4503599627370496 + rM v (rDrop (U.blen v) e) more
def clampE (e : Int) : Int := mx (-100000) (mn e 100000)
def rFlag (v : Nat) (e : Int) (more : Bool) : Int :=
  (if rLost v (rDrop (U.blen v) e) more then (if e + (U.blen v : Int) < -1021 then 3 else 1) else 0)
def rBits (neg : Bool) (v : Nat) (e : Int) (more : Bool) : Int :=
  (if neg = true then 9223372036854775808 else 0) + (if v = 0 then 0 else if 9218868437227405312 ≤ rPat v e more then 9218868437227405312 else (rPat v e more : Int))
def rFlags (v : Nat) (e : Int) (more : Bool) : Int :=
  if v = 0 then (if more then 3 else 0) else if 9218868437227405312 ≤ rPat v e more then Go.bits .or .u8 (Go.bits .or .u8 (rFlag v e more) 4) 1 else rFlag v e more
theorem rDrop_ge (L e : Int) : -1074 ≤ e + rDrop L e := by unfold rDrop; split <;> omega
theorem rM_le (v : Nat) (e : Int) (more : Bool) (hv : v ≠ 0) : rM v (rDrop (U.blen v) e) more ≤ 9007199254740992 := by
  have hl := U.lt_blen v
  unfold rM
  by_cases h : 0 < rDrop (U.blen v) e
  · rw [if_pos h]
    have : v / 2 ^ (rDrop (U.blen v) e).toNat < 9007199254740992 := by
      rw [Nat.div_lt_iff_lt_mul (Nat.two_pow_pos _)]
      refine Nat.lt_of_lt_of_le hl ?_
      have e1 : 9007199254740992 = 2 ^ 53 := by decide
      rw [e1, ← Nat.pow_add]
      refine Nat.pow_le_pow_right (by decide) ?_
      unfold rDrop at h ⊢; split at h <;> rename_i c
      · rw [if_pos c]; omega
      · rw [if_neg c]; omega
    split <;> omega
  · rw [if_neg h]
    have hb : U.blen v ≠ 0 := fun c => hv (U.blen_eq_zero.1 c)
    have : v * 2 ^ (-rDrop (U.blen v) e).toNat < 2 ^ (U.blen v) * 2 ^ (-rDrop (U.blen v) e).toNat := Nat.mul_lt_mul_of_pos_right hl (Nat.two_pow_pos _)
    rw [← Nat.pow_add] at this
    have : 2 ^ (U.blen v + (-rDrop (U.blen v) e).toNat) ≤ 2 ^ 53 := by
      refine Nat.pow_le_pow_right (by decide) ?_
      unfold rDrop at h ⊢; split at h <;> rename_i c
      · rw [if_pos c]; omega
      · rw [if_neg c]; omega
    have e1 : 2 ^ 53 = 9007199254740992 := by decide
    omega
theorem rM_ge (v : Nat) (e : Int) (more : Bool) (hv : v ≠ 0) (hd : rDrop (U.blen v) e = (U.blen v : Int) - 53) : 4503599627370496 ≤ rM v (rDrop (U.blen v) e) more := by
  have hl := U.blen_ge v hv
  have hb : U.blen v ≠ 0 := fun c => hv (U.blen_eq_zero.1 c)
  have e1 : 4503599627370496 = 2 ^ 52 := by decide
  unfold rM
  rw [hd]
  by_cases h : 0 < (U.blen v : Int) - 53
  · rw [if_pos h]
    have : 4503599627370496 ≤ v / 2 ^ ((U.blen v : Int) - 53).toNat := by
      rw [Nat.le_div_iff_mul_le (Nat.two_pow_pos _), e1, ← Nat.pow_add]
      refine Nat.le_trans (Nat.pow_le_pow_right (by decide) ?_) hl
      omega
    omega
  · rw [if_neg h]
    have : 2 ^ (U.blen v - 1) * 2 ^ (-((U.blen v : Int) - 53)).toNat ≤ v * 2 ^ (-((U.blen v : Int) - 53)).toNat := Nat.mul_le_mul_right _ hl
    rw [← Nat.pow_add] at this
    refine Nat.le_trans ?_ this
    rw [e1]
    exact Nat.pow_le_pow_right (by decide) (by omega)
theorem clampE_bd (e : Int) : -100000 ≤ clampE e ∧ clampE e ≤ 100000 := by
  unfold clampE mx mn; repeat (any_goals split)
  all_goals omega
/-- What follows the rounding: the pattern and the flags. -/
theorem round_j2 (k : Nat) (neg : Bool) (e drop : Int) (tiny lost : Bool) (hi : Int) (m : Nat) (he : -200000 ≤ e) (he' : e ≤ 200000) (hd : -200000 ≤ drop) (hd' : drop ≤ 200000)
    (ht : -1074 ≤ e + drop) (hm : m ≤ 9007199254740992) (hm2 : m < 4503599627370496 → e + drop = -1074) :
    round_Round.j2 (k + 3) neg e drop tiny lost hi (m : Int) =
      some ((if neg = true then 9223372036854775808 else 0) + (if 9218868437227405312 ≤ (e + drop + 1074).toNat * 4503599627370496 + m then 9218868437227405312 else (((e + drop + 1074).toNat * 4503599627370496 + m : Nat) : Int)),
        if 9218868437227405312 ≤ (e + drop + 1074).toNat * 4503599627370496 + m then Go.bits .or .u8 (Go.bits .or .u8 (if lost then (if tiny then 3 else 1) else 0) 4) 1 else (if lost then (if tiny then 3 else 1) else 0)) := by
  have w1 : wrap64 (e + drop) = e + drop := U.wrap64_id (by omega) (by omega)
  have w2 : wrap64 (e + drop + 1) = e + drop + 1 := U.wrap64_id (by omega) (by omega)
  have b1 : Go.bits .or .u8 (Go.bits .or .u8 0 1) 2 = 3 := by decide
  have b2 : Go.bits .or .u8 0 1 = 1 := by decide
  have j4 : ∀ (x m' f : Int) (P : Nat), -300000 ≤ x → x ≤ 500000 → 0 ≤ m' → m' < 9007199254740992 → (m' < 4503599627370496 → (P : Int) = m' ∧ m' < 9218868437227405312) → (4503599627370496 ≤ m' → (P : Int) = (x + 1074) * 4503599627370496 + m' ∧ -1074 ≤ x) →
      round_Round.j4 (k + 1) neg x m' f = some ((if neg = true then 9223372036854775808 else 0) + (if 9218868437227405312 ≤ P then 9218868437227405312 else (P : Int)), if 9218868437227405312 ≤ P then Go.bits .or .u8 (Go.bits .or .u8 f 4) 1 else f) := by
    intro x m' f P x1 x2 m1 m2 p1 p2
    have w3 : wrap64 (x + 1075) = x + 1075 := U.wrap64_id (by omega) (by omega)
    rw [round_Round.j4, w3]
    by_cases c : m' < 4503599627370496
    · have q := p1 c
      have np : ¬ 9218868437227405312 ≤ P := by omega
      rw [if_pos c, make_eq _ _ _ (by omega) (by omega) (by omega) (by omega), U.bs]
      simp only [if_neg np]
      generalize (if neg = true then (9223372036854775808 : Int) else 0) = s
      have : s + 0 % 2048 * 4503599627370496 + m' % 4503599627370496 = s + (P : Int) := by omega
      rw [this]
    · have q := p2 (by omega)
      rw [if_neg c]
      by_cases c2 : x + 1075 ≥ 2047
      · have np : 9218868437227405312 ≤ P := by omega
        rw [if_pos c2, make_eq _ _ _ (by omega) (by omega) (by omega) (by omega), U.bs]
        simp only [if_pos np]
        generalize (if neg = true then (9223372036854775808 : Int) else 0) = s
        have : s + 2047 % 2048 * 4503599627370496 + 0 % 4503599627370496 = s + 9218868437227405312 := by omega
        rw [this]
      · have np : ¬ 9218868437227405312 ≤ P := by omega
        rw [if_neg c2, make_eq _ _ _ (by omega) (by omega) (by omega) (by omega), U.bs]
        simp only [if_neg np]
        generalize (if neg = true then (9223372036854775808 : Int) else 0) = s
        have : s + (x + 1075) % 2048 * 4503599627370496 + m' % 4503599627370496 = s + (P : Int) := by omega
        rw [this]
  have j3 : ∀ (x m' : Int) (P : Nat), -300000 ≤ x → x ≤ 500000 → 0 ≤ m' → m' < 9007199254740992 → (m' < 4503599627370496 → (P : Int) = m' ∧ m' < 9218868437227405312) → (4503599627370496 ≤ m' → (P : Int) = (x + 1074) * 4503599627370496 + m' ∧ -1074 ≤ x) →
      round_Round.j3 (k + 2) neg x tiny lost m' = some ((if neg = true then 9223372036854775808 else 0) + (if 9218868437227405312 ≤ P then 9218868437227405312 else (P : Int)), if 9218868437227405312 ≤ P then Go.bits .or .u8 (Go.bits .or .u8 (if lost then (if tiny then 3 else 1) else 0) 4) 1 else (if lost then (if tiny then 3 else 1) else 0)) := by
    intro x m' P x1 x2 m1 m2 p1 p2
    rw [round_Round.j3, b1, b2]
    cases lost with
    | true =>
      cases tiny with
      | true => exact j4 x m' 3 P x1 x2 m1 m2 p1 p2
      | false => exact j4 x m' 1 P x1 x2 m1 m2 p1 p2
    | false => exact j4 x m' 0 P x1 x2 m1 m2 p1 p2
  rw [round_Round.j2, w1, w2]
  by_cases c : (m : Int) = 9007199254740992
  · rw [if_pos c]
    exact j3 _ _ _ (by omega) (by omega) (by omega) (by omega) (by omega) (by omega)
  · rw [if_neg c]
    exact j3 _ _ _ (by omega) (by omega) (by omega) (by omega) (by omega) (by omega)
theorem mod_pred (v d : Nat) (hd : 0 < d) : (v % 2 ^ d ≠ 0) ↔ (v / 2 ^ (d - 1) % 2 = 1 ∨ v % 2 ^ (d - 1) ≠ 0) := by
  obtain ⟨c, rfl⟩ : ∃ c, d = c + 1 := ⟨d - 1, by omega⟩
  rw [Nat.add_sub_cancel, Nat.pow_succ, Nat.mod_mul]
  have hp := Nat.two_pow_pos c
  have h2 : v / 2 ^ c % 2 = 0 ∨ v / 2 ^ c % 2 = 1 := by omega
  rcases h2 with h2 | h2
  · rw [h2]; simp
  · rw [h2]; simp
theorem round_eq (k : Nat) (neg : Bool) (v : Nat) (e : Int) (more : Bool) (hv : v < 340282366920938463463374607431768211456) :
    round_Round.f (k + 5) neg ((v / 18446744073709551616 : Nat) : Int) ((v % 18446744073709551616 : Nat) : Int) e more = some (rBits neg v (clampE e) more, rFlags v (clampE e) more) := by
  have cb := clampE_bd e
  unfold round_Round.f
  rw [wzero_eq v hv, U.bs]
  by_cases h0 : v = 0
  · subst h0
    have m0 : word_Make.f neg 0 0 = some ((if neg = true then 9223372036854775808 else 0) + 0 + 0) := make_eq _ _ _ (by decide) (by decide) (by decide) (by decide)
    rw [if_pos (by decide), m0]
    unfold rBits rFlags
    cases more with
    | true => rw [if_pos rfl, U.bs]; simp only [if_true, Int.add_zero]
    | false => rw [if_neg (show ¬ false = true by decide), U.bs]; simp only [if_true, Int.add_zero, Bool.false_eq_true, if_false]
  · have lb := (U.blen_le 128 v).2 (by rw [p128]; exact hv)
    have lb0 : U.blen v ≠ 0 := fun c => h0 (U.blen_eq_zero.1 c)
    have w1 : wrap64 (((U.blen v : Nat) : Int) - 53) = (U.blen v : Int) - 53 := U.wrap64_id (by omega) (by omega)
    have fold : mx (-100000) (mn e 100000) = clampE e := rfl
    rw [if_neg (by simpa using h0), fold, wlen_eq _ v hv, U.bs, U.bs, w1, U.wrap64_id (a := clampE e + ((U.blen v : Int) - 53)) (by omega) (by omega), U.wrap64_id (a := clampE e + ((U.blen v : Nat) : Int)) (by omega) (by omega)]
    have hm := rM_le v (clampE e) more h0
    have hge := rDrop_ge (U.blen v) (clampE e)
    have hm2 : rM v (rDrop (U.blen v) (clampE e)) more < 4503599627370496 → clampE e + rDrop (U.blen v) (clampE e) = -1074 := by
      intro hlt
      by_cases hd : rDrop (U.blen v) (clampE e) = (U.blen v : Int) - 53
      · have := rM_ge v (clampE e) more h0 hd; omega
      · unfold rDrop at hd ⊢
        by_cases c : clampE e + ((U.blen v : Int) - 53) < -1074
        · rw [if_pos c] <;> omega
        · rw [if_neg c] at hd; exact absurd rfl hd
    have hdb : -200000 ≤ rDrop (U.blen v) (clampE e) ∧ rDrop (U.blen v) (clampE e) ≤ 200000 := by
      unfold rDrop; split <;> omega
    have j2 := fun q hi => round_j2 q neg (clampE e) (rDrop (U.blen v) (clampE e)) (decide (clampE e + ((U.blen v : Nat) : Int) < -1021)) (rLost v (rDrop (U.blen v) (clampE e)) more) hi (rM v (rDrop (U.blen v) (clampE e)) more) (by omega) (by omega) hdb.1 hdb.2 hge hm hm2
    have goal : ∀ q hi, round_Round.j2 (q + 3) neg (clampE e) (rDrop (U.blen v) (clampE e)) (decide (clampE e + ((U.blen v : Nat) : Int) < -1021)) (rLost v (rDrop (U.blen v) (clampE e)) more) hi ((rM v (rDrop (U.blen v) (clampE e)) more : Nat) : Int) = some (rBits neg v (clampE e) more, rFlags v (clampE e) more) := by
      intro q hi
      rw [j2 q hi]
      unfold rBits rFlags rPat rFlag
      rw [if_neg h0, if_neg h0]
      simp only [decide_eq_true_eq]
    have j0 : round_Round.j0 (k + 5) neg (clampE e) more (rDrop (U.blen v) (clampE e)) (decide (clampE e + ((U.blen v : Nat) : Int) < -1021)) ((v / 18446744073709551616 : Nat) : Int) ((v % 18446744073709551616 : Nat) : Int) = some (rBits neg v (clampE e) more, rFlags v (clampE e) more) := by
      rw [round_Round.j0]
      by_cases hd : rDrop (U.blen v) (clampE e) > 0
      · obtain ⟨d, hdd⟩ := Int.eq_ofNat_of_zero_le (by omega : 0 ≤ rDrop (U.blen v) (clampE e))
        rw [if_pos hd]
        have hM : rM v (rDrop (U.blen v) (clampE e)) more = v / 2 ^ d + (if rUp v d more then 1 else 0) := by
          unfold rM; rw [if_pos hd, hdd, Int.toNat_natCast]
        have hL : rLost v (rDrop (U.blen v) (clampE e)) more = (decide (v % 2 ^ d ≠ 0) || more) := by
          unfold rLost; rw [decide_eq_true hd, hdd, Int.toNat_natCast, Bool.true_and]
        have r := right_eq v hv (d : Int) (by omega) (by omega)
        rw [Int.toNat_natCast] at r
        have sp := rsplit_eq v d hv (by omega) (by omega) h0
        have mp := mod_pred v d (by omega)
        have hle := Nat.div_le_self v (2 ^ d)
        have q1 : v / 2 ^ d + 1 ≤ 9007199254740992 ∨ v / 2 ^ d ≤ 9007199254740992 := by
          rw [hM] at hm; right; split at hm <;> omega
        have low : v / 2 ^ d % 18446744073709551616 = v / 2 ^ d := Nat.mod_eq_of_lt (by omega)
        have high : v / 2 ^ d / 18446744073709551616 = 0 := Nat.div_eq_of_lt (by omega)
        rw [low, high, show ((0 : Nat) : Int) = 0 from rfl] at r
        have ad := wadd_eq (v / 2 ^ d) 1 (by omega) (by omega)
        have addlow : (v / 2 ^ d + 1) % 340282366920938463463374607431768211456 % 18446744073709551616 = v / 2 ^ d + 1 := by omega
        rw [low, high, addlow] at ad
        rw [show ((1 / 18446744073709551616 : Nat) : Int) = 0 from rfl, show ((1 % 18446744073709551616 : Nat) : Int) = 1 from rfl] at ad
        rw [hdd] at goal ⊢
        rw [r, U.bs]
        simp only
        rw [sp, U.bs]
        simp only
        rw [ad, U.and_1 (by omega) (by omega)]
        simp only [U.bs]
        rw [hdd] at hM hL
        rw [hM, hL] at goal
        by_cases half : v / 2 ^ (d - 1) % 2 = 1
        · have lost1 : decide (v % 2 ^ d ≠ 0) = true := decide_eq_true (mp.2 (Or.inl half))
          rw [lost1, Bool.true_or] at goal
          rw [if_pos (decide_eq_true half)]
          by_cases rest : v % 2 ^ (d - 1) ≠ 0
          · have up : rUp v d more = true := by unfold rUp; rw [decide_eq_true half, decide_eq_true rest]; rfl
            rw [up] at goal
            rw [if_pos (decide_eq_true rest)]
            exact goal _ _
          · rw [if_neg (by simpa using rest)]
            cases more with
            | true =>
              have up : rUp v d true = true := by unfold rUp; rw [decide_eq_true half]; simp
              rw [up] at goal
              rw [if_pos rfl]
              exact goal _ _
            | false =>
              rw [if_neg (by decide)]
              by_cases odd : v / 2 ^ d % 2 = 1
              · have up : rUp v d false = true := by unfold rUp; rw [decide_eq_true half, decide_eq_true odd]; simp
                rw [up] at goal
                have o2 : ((v / 2 ^ d : Nat) : Int) % 2 = 1 := by omega
                rw [if_pos o2]
                exact goal _ _
              · have up : rUp v d false = false := by unfold rUp; rw [decide_eq_false odd, decide_eq_false rest]; simp
                rw [up] at goal
                have o2 : ¬ ((v / 2 ^ d : Nat) : Int) % 2 = 1 := by omega
                rw [if_neg o2]
                exact goal _ _
        · have up : rUp v d more = false := by unfold rUp; rw [decide_eq_false half]; rfl
          rw [up] at goal
          rw [if_neg (by simpa using half)]
          by_cases rest : v % 2 ^ (d - 1) ≠ 0
          · have lost1 : decide (v % 2 ^ d ≠ 0) = true := decide_eq_true (mp.2 (Or.inr rest))
            rw [lost1, Bool.true_or] at goal
            rw [if_pos (decide_eq_true rest)]
            exact goal _ _
          · have lost1 : decide (v % 2 ^ d ≠ 0) = false := decide_eq_false (fun h => (mp.1 h).elim half rest)
            rw [lost1, Bool.false_or] at goal
            rw [if_neg (by simpa using rest)]
            exact goal _ _
      · rw [if_neg hd]
        have hM : rM v (rDrop (U.blen v) (clampE e)) more = v * 2 ^ (-rDrop (U.blen v) (clampE e)).toNat := by
          unfold rM; rw [if_neg hd]
        have hL : rLost v (rDrop (U.blen v) (clampE e)) more = more := by
          unfold rLost; rw [decide_eq_false hd, Bool.false_and, Bool.false_or]
        rw [hM, hL] at goal
        rw [hM] at hm
        have wn : wrap64 (-rDrop (U.blen v) (clampE e)) = -rDrop (U.blen v) (clampE e) := U.wrap64_id (by omega) (by omega)
        by_cases hneg : rDrop (U.blen v) (clampE e) < 0
        · rw [if_pos hneg]
          have l := left_eq v hv (-rDrop (U.blen v) (clampE e)) (by omega) (by omega)
          have low : v * 2 ^ (-rDrop (U.blen v) (clampE e)).toNat % 18446744073709551616 = v * 2 ^ (-rDrop (U.blen v) (clampE e)).toNat := Nat.mod_eq_of_lt (by omega)
          rw [low] at l
          rw [round_Round.j1, wn, l]
          simp only [U.bs]
          rw [if_pos hneg]
          cases more with
          | true => rw [if_neg (by decide)]; exact goal _ _
          | false => rw [if_pos (by decide)]; exact goal _ _
        · have z : rDrop (U.blen v) (clampE e) = 0 := by omega
          rw [if_neg hneg, round_Round.j1, if_neg (by decide), if_neg hneg]
          rw [z, show (-(0 : Int)).toNat = 0 from rfl, Nat.pow_zero, Nat.mul_one] at goal hm
          have low : v % 18446744073709551616 = v := Nat.mod_eq_of_lt (by omega)
          rw [z, low]
          exact goal _ _
    by_cases c : clampE e + ((U.blen v : Int) - 53) < -1074
    · rw [if_pos c]
      have : (-1074 : Int) - clampE e = rDrop (U.blen v) (clampE e) := by unfold rDrop; rw [if_pos c]
      rw [this]; exact j0
    · rw [if_neg c]
      have : (U.blen v : Int) - 53 = rDrop (U.blen v) (clampE e) := by unfold rDrop; rw [if_neg c]
      rw [this]; exact j0
theorem clampE_id {e : Int} (h : -100000 ≤ e) (h' : e ≤ 100000) : clampE e = e := by
  unfold clampE mx mn; repeat (any_goals split)
  all_goals omega
theorem blen_of {v L : Nat} (h1 : 2 ^ L ≤ v) (h2 : v < 2 ^ (L + 1)) : U.blen v = L + 1 := by
  have a := (U.blen_le (L + 1) v).2 h2
  have b := U.blen_le L v
  omega
theorem head_eq (k : Nat) : gimballaw03_head.f (k + 5) = some true := by
  unfold gimballaw03_head.f
  have r1 := round_eq k false 9007199254740993 0 false (by decide)
  have r2 := round_eq k false 9007199254740995 0 false (by decide)
  rw [show ((9007199254740993 / 18446744073709551616 : Nat) : Int) = 0 from rfl, show ((9007199254740993 % 18446744073709551616 : Nat) : Int) = 9007199254740993 from rfl] at r1
  rw [show ((9007199254740995 / 18446744073709551616 : Nat) : Int) = 0 from rfl, show ((9007199254740995 % 18446744073709551616 : Nat) : Int) = 9007199254740995 from rfl] at r2
  have l1 : U.blen 9007199254740993 = 54 := blen_of (L := 53) (by decide) (by decide)
  have l2 : U.blen 9007199254740995 = 54 := blen_of (L := 53) (by decide) (by decide)
  have d : rDrop ((54 : Nat) : Int) (clampE 0) = 1 := by decide
  have b1 : rBits false 9007199254740993 (clampE 0) false = 4845873199050653696 := by
    unfold rBits rPat rM rUp; rw [l1, d]; decide
  have f1 : rFlags 9007199254740993 (clampE 0) false = 1 := by
    unfold rFlags rPat rM rUp rFlag rLost; rw [l1, d]; decide
  have b2 : rBits false 9007199254740995 (clampE 0) false = 4845873199050653698 := by
    unfold rBits rPat rM rUp; rw [l2, d]; decide
  rw [b1, f1] at r1
  rw [b2] at r2
  have m1 : word_Make.f false 1076 0 = some 4845873199050653696 := by rw [make_eq _ _ _ (by decide) (by decide) (by decide) (by decide)]; decide
  have m2 : word_Make.f false 1076 2 = some 4845873199050653698 := by rw [make_eq _ _ _ (by decide) (by decide) (by decide) (by decide)]; decide
  rw [r1, r2, m1, m2]
  simp only [U.bs]
  decide
theorem rDrop_normal {L e : Int} (h : -1074 ≤ e + (L - 53)) : rDrop L e = L - 53 := by unfold rDrop; rw [if_neg (by omega)]
theorem rd_nat (l : List Int) (n : Nat) : rd l (n : Int) = l.getD n 0 := by unfold rd; rw [Int.toNat_natCast]
theorem trim_l0 (l : List Int) (hb : U.isb l) (hn : l.length < 17592186044416) (n : Nat) : ∀ k, n ≤ l.length → n < k → gimbalref02_Trim.l0 k l (n : Int) = some (U.binl (U.val (l.take n))) := by
  induction n with
  | zero =>
    intro k _ hk
    obtain ⟨k, rfl⟩ : ∃ m, k = m + 1 := ⟨k - 1, by omega⟩
    rw [gimbalref02_Trim.l0, if_neg (by omega)]
    simp [U.val, U.binl_zero]
  | succ n ih =>
    intro k h hk
    obtain ⟨k, rfl⟩ : ∃ m, k = m + 1 := ⟨k - 1, by omega⟩
    have hw : wrap64 (((n + 1 : Nat) : Int) - 1) = (n : Int) := by rw [U.wrap64_id (by omega) (by omega)]; omega
    rw [gimbalref02_Trim.l0, if_pos (by omega), hw, if_pos (by omega), if_pos (by omega), rd_nat]
    rcases U.getD_isb hb n with h0 | h1
    · rw [if_pos h0, ih k (by omega) (by omega), U.val_take_succ (by omega), h0]
      simp
    · rw [if_neg (by rw [h1]; decide)]
      have e : (((n + 1 : Nat) : Int)).toNat = n + 1 := Int.toNat_natCast _
      have hlen : (l.take (n + 1)).length = n + 1 := by rw [List.length_take]; omega
      rw [Option.bind_some, if_pos (by omega), if_pos (by omega), e, if_pos (by simp [hlen]; omega), List.nil_append]
      congr 1
      refine (U.binl_val (U.isb_take hb _) (Or.inr ?_)).1.symm
      rw [List.take_succ_eq_append_getElem (by omega), List.getLast?_append]
      rw [List.getD_eq_getElem?_getD, List.getElem?_eq_getElem (by omega), Option.getD_some] at h1
      simp [h1]
theorem trim_eq (l : List Int) (hb : U.isb l) (hn : l.length < 17592186044416) (k : Nat) (hk : l.length < k) : gimbalref02_Trim.f k l = some (U.binl (U.val l)) := by
  unfold gimbalref02_Trim.f
  rw [trim_l0 l hb hn l.length k (Nat.le_refl _) hk, List.take_length]
theorem of_l0 (n : Nat) : ∀ (k : Nat) (acc : List Int), n < 18446744073709551616 → U.blen n < k → acc.length + U.blen n < 17592186044416 → gimbalref02_Of.l0 k (n : Int) acc = some (acc ++ U.binl n) := by
  induction n using Nat.strongRecOn with
  | ind n ih =>
    intro k acc hn hk hl
    obtain ⟨k, rfl⟩ : ∃ m, k = m + 1 := ⟨k - 1, by omega⟩
    by_cases h : n = 0
    · subst h
      rw [gimbalref02_Of.l0, if_neg (by decide), U.binl_zero, List.append_nil]
    · have hb := U.blen_pos h
      have e1 : IntKind.u64.wrap (Int.tdiv (n : Int) 2) = ((n / 2 : Nat) : Int) := by
        rw [U.tdiv_nn (by omega), U.wrap_u64_id (by omega) (by omega)]; omega
      have e2 : wrap64 (Int.tmod (n : Int) 2) = ((n % 2 : Nat) : Int) := by
        rw [U.tmod_nn (by omega), U.wrap64_id (by omega) (by omega)]; omega
      rw [gimbalref02_Of.l0, if_pos (by omega), if_pos (by omega), e1, e2, ih (n / 2) (by omega) k _ (by omega) (by omega) (by simp; omega), U.binl_pos h]
      simp
theorem of_eq (n : Nat) (hn : n < 18446744073709551616) (k : Nat) (hk : 65 < k) : gimbalref02_Of.f k (n : Int) = some (U.binl n) := by
  have := (U.blen_le 64 n).2 hn
  unfold gimbalref02_Of.f
  rw [of_l0 n k [] hn (by omega) (by simp; omega), List.nil_append]
theorem up_l0 (l : List Int) (hb : U.isb l) (n : Nat) (hs : n + l.length < 17592186044416) (d : Nat) : ∀ (k i : Nat), i + d = n → d + n + l.length + 1 < k →
    gimbalref02_Up.l0 k l (n : Int) (List.replicate i 0) (i : Int) = some (U.binl (U.val l * 2 ^ n)) := by
  induction d with
  | zero =>
    intro k i hi hk
    obtain ⟨k, rfl⟩ : ∃ m, k = m + 1 := ⟨k - 1, by omega⟩
    have e : i = n := by omega
    subst e
    rw [gimbalref02_Up.l0, if_neg (by omega), if_pos (by rw [List.length_replicate]; omega), trim_eq _ (U.isb_append (U.isb_replicate _) hb) (by simp; omega) k (by simp; omega), U.val_append, U.val_replicate, List.length_replicate, Option.bind_some, Nat.zero_add, Nat.mul_comm]
  | succ d ih =>
    intro k i hi hk
    obtain ⟨k, rfl⟩ : ∃ m, k = m + 1 := ⟨k - 1, by omega⟩
    have hw : wrap64 ((i : Int) + 1) = ((i + 1 : Nat) : Int) := by rw [U.wrap64_id (by omega) (by omega)]; omega
    have hr : List.replicate i (0 : Int) ++ [0] = List.replicate (i + 1) 0 := by rw [List.replicate_succ']
    rw [gimbalref02_Up.l0, if_pos (by omega), if_pos (by rw [List.length_replicate]; omega), hr, hw]
    exact ih k (i + 1) (by omega) (by omega)
theorem up_eq (l : List Int) (hb : U.isb l) (n : Nat) (hs : n + l.length < 17592186044416) (k : Nat) (hk : 2 * n + l.length + 1 < k) : gimbalref02_Up.f k l (n : Int) = some (U.binl (U.val l * 2 ^ n)) := by
  unfold gimbalref02_Up.f
  exact up_l0 l hb n hs n k 0 (by omega) (by omega)
theorem up_binl (a n : Nat) (hs : n + U.blen a < 17592186044416) (k : Nat) (hk : 2 * n + U.blen a + 1 < k) : gimbalref02_Up.f k (U.binl a) (n : Int) = some (U.binl (a * 2 ^ n)) := by
  rw [up_eq _ (U.isb_binl a) n hs k hk, U.val_binl]
theorem cmp_l0 (l m : List Int) (hl : U.isb l) (hm : U.isb m) (n : Nat) : ∀ (k : Nat), n ≤ l.length → n ≤ m.length → n < k → n < 9223372036854775808 → gimbalref02_Cmp.l0 k l m ((n : Int) - 1) = some (U.cmp3 (U.val (l.take n)) (U.val (m.take n))) := by
  induction n with
  | zero =>
    intro k _ _ hk _
    obtain ⟨k, rfl⟩ : ∃ m, k = m + 1 := ⟨k - 1, by omega⟩
    rw [gimbalref02_Cmp.l0, if_neg (by omega)]
    simp [U.val, U.cmp3]
  | succ n ih =>
    intro k h1 h2 hk hb
    obtain ⟨k, rfl⟩ : ∃ m, k = m + 1 := ⟨k - 1, by omega⟩
    have e : ((n + 1 : Nat) : Int) - 1 = (n : Int) := by omega
    have hw : wrap64 ((n : Int) - 1) = (n : Int) - 1 := U.wrap64_id (by omega) (by omega)
    have b1 := U.val_lt (U.isb_take hl n)
    have b2 := U.val_lt (U.isb_take hm n)
    rw [List.length_take, Nat.min_eq_left (by omega)] at b1 b2
    have c1 := U.val_take_succ (l := l) (n := n) (by omega)
    have c2 := U.val_take_succ (l := m) (n := n) (by omega)
    rw [gimbalref02_Cmp.l0, e, if_pos (by omega), if_pos (by omega), if_pos (by omega), if_pos (by omega), rd_nat, rd_nat, hw]
    have g1 := U.getD_isb hl n
    have g2 := U.getD_isb hm n
    by_cases hq : l.getD n 0 = m.getD n 0
    · rw [if_pos hq, ih k (by omega) (by omega) (by omega) (by omega), c1, c2, hq]
      unfold U.cmp3
      congr 1
      repeat (any_goals split)
      all_goals omega
    · rw [if_neg hq]
      by_cases hlt : l.getD n 0 < m.getD n 0
      · have x1 : l.getD n 0 = 0 := by omega
        have x2 : m.getD n 0 = 1 := by omega
        rw [if_pos hlt, c1, c2, x1, x2]
        have : U.cmp3 ((U.val (l.take n) + 2 ^ n * (0 : Int).toNat : Nat) : Int) ((U.val (m.take n) + 2 ^ n * (1 : Int).toNat : Nat) : Int) = -1 := by
          unfold U.cmp3
          have t0 : (0 : Int).toNat = 0 := rfl
          have t1 : (1 : Int).toNat = 1 := rfl
          rw [t0, t1, if_pos (by omega)]
        rw [this]
      · have x1 : l.getD n 0 = 1 := by omega
        have x2 : m.getD n 0 = 0 := by omega
        rw [if_neg hlt, c1, c2, x1, x2]
        have : U.cmp3 ((U.val (l.take n) + 2 ^ n * (1 : Int).toNat : Nat) : Int) ((U.val (m.take n) + 2 ^ n * (0 : Int).toNat : Nat) : Int) = 1 := by
          unfold U.cmp3
          have t0 : (0 : Int).toNat = 0 := rfl
          have t1 : (1 : Int).toNat = 1 := rfl
          rw [t0, t1, if_neg (by omega), if_pos (by omega)]
        rw [this]
theorem refcmp_eq (l m : List Int) (hl : U.isb l) (hm : U.isb m) (ql : l.length < 17592186044416) (qm : m.length < 17592186044416) (k : Nat) (hk : l.length < k) (hk2 : m.length < k) : gimbalref02_Cmp.f k l m = some (U.cmp3 (U.val l) (U.val m)) := by
  unfold gimbalref02_Cmp.f
  rw [trim_eq l hl ql k hk, trim_eq m hm qm k hk2]
  simp only [Option.bind_some]
  have b1 := (U.blen_le l.length (U.val l)).2 (U.val_lt hl)
  have b2 := (U.blen_le m.length (U.val m)).2 (U.val_lt hm)
  have d1 : (U.binl (U.val l)).length = U.blen (U.val l) := rfl
  have d2 : (U.binl (U.val m)).length = U.blen (U.val m) := rfl
  have m1 := fun h : U.val m ≤ U.val l => U.blen_mono h
  have m2 := fun h : U.val l ≤ U.val m => U.blen_mono h
  rw [d1, d2]
  by_cases he : (U.blen (U.val l) : Int) = (U.blen (U.val m) : Int)
  · have he' : U.blen (U.val l) = U.blen (U.val m) := by omega
    have c := cmp_l0 (U.binl (U.val l)) (U.binl (U.val m)) (U.isb_binl _) (U.isb_binl _) (U.blen (U.val l)) k (Nat.le_refl _) (by rw [d2, he']; exact Nat.le_refl _) (by omega) (by omega)
    rw [if_pos he, U.wrap64_id (by omega) (by omega), c]
    have t1 : (U.binl (U.val l)).take (U.blen (U.val l)) = U.binl (U.val l) := by rw [← d1, List.take_length]
    have t2 : (U.binl (U.val m)).take (U.blen (U.val l)) = U.binl (U.val m) := by rw [he', ← d2, List.take_length]
    rw [t1, t2, U.val_binl, U.val_binl]
  · rw [if_neg he]
    unfold U.cmp3
    by_cases hlt : (U.blen (U.val l) : Int) < (U.blen (U.val m) : Int)
    · rw [if_pos hlt, if_pos (by omega)]
    · rw [if_neg hlt, if_neg (by omega), if_pos (by omega)]
theorem refcmp_binl (a b : Nat) (ql : U.blen a < 17592186044416) (qm : U.blen b < 17592186044416) (k : Nat) (hk : U.blen a < k) (hk2 : U.blen b < k) : gimbalref02_Cmp.f k (U.binl a) (U.binl b) = some (U.cmp3 a b) := by
  rw [refcmp_eq _ _ (U.isb_binl a) (U.isb_binl b) ql qm k hk hk2, U.val_binl, U.val_binl]
theorem val_drop (l : List Int) (i : Nat) : U.val (l.drop i) = (l.getD i 0).toNat + 2 * U.val (l.drop (i + 1)) := by
  by_cases h : i < l.length
  · rw [List.drop_eq_getElem_cons h, List.getD_eq_getElem?_getD, List.getElem?_eq_getElem h, Option.getD_some]; rfl
  · rw [List.drop_eq_nil_of_le (by omega), List.drop_eq_nil_of_le (by omega), List.getD_eq_getElem?_getD, List.getElem?_eq_none (by omega)]; rfl
theorem val_snoc (out : List Int) (x : Int) : U.val (out ++ [x]) = U.val out + 2 ^ out.length * x.toNat := by
  rw [U.val_append]; show _ + _ * (x.toNat + 2 * 0) = _; rw [Nat.mul_zero, Nat.add_zero]
theorem add_l0 (l m : List Int) (hl : U.isb l) (hm : U.isb m) (e : Nat) : ∀ (k i : Nat) (out : List Int) (c : Nat), c ≤ 1 → l.length ≤ i + e → m.length ≤ i + e → U.isb out → out.length = i → i + e < 17592186044000 →
    2 * e + 6 + (i + e + 2) < k + (1 - c) * 0 → gimbalref02_Add.l0 k l m out (c : Int) (i : Int) = some (U.binl (U.val out + 2 ^ i * (c + U.val (l.drop i) + U.val (m.drop i)))) := by
  have stop : ∀ (k i : Nat) (out : List Int), l.length ≤ i → m.length ≤ i → U.isb out → out.length = i → i < 17592186044400 → i + 3 < k →
      gimbalref02_Add.l0 k l m out 0 (i : Int) = some (U.binl (U.val out)) := by
    intro k i out h1 h2 hb ho hs hk
    obtain ⟨k, rfl⟩ : ∃ m, k = m + 2 := ⟨k - 2, by omega⟩
    rw [gimbalref02_Add.l0, if_neg (by omega), if_neg (by omega)]
    rw [gimbalref02_Add.j1, if_neg (by decide), trim_eq out hb (by omega) k (by omega), Option.bind_some]
  have step : ∀ (k i : Nat) (out : List Int) (c : Nat), c ≤ 1 → out.length = i → i < 17592186044400 → (i < l.length ∨ i < m.length ∨ c = 1) →
      gimbalref02_Add.l0 (k + 2) l m out (c : Int) (i : Int) = gimbalref02_Add.l0 k l m (out ++ [(((c + (l.getD i 0).toNat + (m.getD i 0).toNat) % 2 : Nat) : Int)]) (((c + (l.getD i 0).toNat + (m.getD i 0).toNat) / 2 : Nat) : Int) ((i + 1 : Nat) : Int) := by
    intro k i out c hc ho hs hor
    have g1 := U.getD_isb hl i
    have g2 := U.getD_isb hm i
    have j : gimbalref02_Add.j1 (k + 1) l m out (c : Int) (i : Int) true = gimbalref02_Add.l0 k l m (out ++ [(((c + (l.getD i 0).toNat + (m.getD i 0).toNat) % 2 : Nat) : Int)]) (((c + (l.getD i 0).toNat + (m.getD i 0).toNat) / 2 : Nat) : Int) ((i + 1 : Nat) : Int) := by
      have hi : wrap64 ((i : Int) + 1) = ((i + 1 : Nat) : Int) := by rw [U.wrap64_id (by omega) (by omega)]; omega
      rw [gimbalref02_Add.j1, if_pos rfl, rd_nat, rd_nat, hi]
      have z1 : ¬ (i : Int) < (l.length : Int) → l.getD i 0 = 0 := fun h => by rw [List.getD_eq_getElem?_getD, List.getElem?_eq_none (by omega)]; rfl
      have z2 : ¬ (i : Int) < (m.length : Int) → m.getD i 0 = 0 := fun h => by rw [List.getD_eq_getElem?_getD, List.getElem?_eq_none (by omega)]; rfl
      have fin : ∀ n : Int, n = (c : Int) + l.getD i 0 + m.getD i 0 → (Int.tmod n 2 = (((c + (l.getD i 0).toNat + (m.getD i 0).toNat) % 2 : Nat) : Int)) ∧ wrap64 (Int.tdiv n 2) = (((c + (l.getD i 0).toNat + (m.getD i 0).toNat) / 2 : Nat) : Int) := by
        intro n hn
        rw [U.tmod_nn (by omega), U.tdiv_nn (by omega), U.wrap64_id (by omega) (by omega)]
        omega
      by_cases c1 : (i : Int) < (l.length : Int)
      · rw [if_pos c1, if_pos (by omega)]
        have w1 : wrap64 ((c : Int) + l.getD i 0) = (c : Int) + l.getD i 0 := U.wrap64_id (by omega) (by omega)
        by_cases c2 : (i : Int) < (m.length : Int)
        · have w2 : wrap64 (wrap64 ((c : Int) + l.getD i 0) + m.getD i 0) = (c : Int) + l.getD i 0 + m.getD i 0 := by rw [w1]; exact U.wrap64_id (by omega) (by omega)
          obtain ⟨f1, f2⟩ := fin _ rfl
          rw [if_pos c2, if_pos (by omega), w2, f1, f2]
        · have y := z2 c2
          obtain ⟨f1, f2⟩ := fin ((c : Int) + l.getD i 0) (by omega)
          rw [if_neg c2, if_pos (by omega), w1, f1, f2]
      · have x := z1 c1
        rw [if_neg c1]
        by_cases c2 : (i : Int) < (m.length : Int)
        · have w1 : wrap64 ((c : Int) + m.getD i 0) = (c : Int) + m.getD i 0 := U.wrap64_id (by omega) (by omega)
          obtain ⟨f1, f2⟩ := fin ((c : Int) + m.getD i 0) (by omega)
          rw [if_pos c2, if_pos (by omega), if_pos (by omega), w1, f1, f2]
        · have y := z2 c2
          obtain ⟨f1, f2⟩ := fin (c : Int) (by omega)
          rw [if_neg c2, if_pos (by omega), f1, f2]
    rw [gimbalref02_Add.l0]
    by_cases c1 : (i : Int) < (l.length : Int)
    · rw [if_pos c1, j]
    · rw [if_neg c1]
      by_cases c2 : (i : Int) < (m.length : Int)
      · rw [if_pos c2, j]
      · have : decide ((c : Int) > 0) = true := by simp; omega
        rw [if_neg c2, this, j]
  have value : ∀ (i : Nat) (out : List Int) (c : Nat), c ≤ 1 → out.length = i →
      U.val (out ++ [(((c + (l.getD i 0).toNat + (m.getD i 0).toNat) % 2 : Nat) : Int)]) + 2 ^ (i + 1) * ((c + (l.getD i 0).toNat + (m.getD i 0).toNat) / 2 + U.val (l.drop (i + 1)) + U.val (m.drop (i + 1)))
        = U.val out + 2 ^ i * (c + U.val (l.drop i) + U.val (m.drop i)) := by
    intro i out c hc ho
    rw [val_snoc, ho, val_drop l i, val_drop m i, Int.toNat_natCast, Nat.pow_succ, Nat.mul_assoc, Nat.add_assoc, ← Nat.mul_add]
    congr 2
    omega
  have bit : ∀ (i : Nat) (out : List Int) (n : Nat), U.isb out → U.isb (out ++ [((n % 2 : Nat) : Int)]) := fun i out n hb => U.isb_append hb (U.isb_cons (by omega) U.isb_nil)
  induction e with
  | zero =>
    intro k i out c hc h1 h2 hb ho hs hk
    have d1 : U.val (l.drop i) = 0 := by rw [List.drop_eq_nil_of_le (by omega)]; rfl
    have d2 : U.val (m.drop i) = 0 := by rw [List.drop_eq_nil_of_le (by omega)]; rfl
    by_cases c0 : c = 0
    · subst c0
      have := stop k i out (by omega) (by omega) hb ho (by omega) (by omega)
      rw [show ((0 : Nat) : Int) = 0 from rfl, this, d1, d2]
      simp
    · have c1 : c = 1 := by omega
      obtain ⟨k, rfl⟩ : ∃ m, k = m + 2 := ⟨k - 2, by omega⟩
      rw [step k i out c hc ho (by omega) (Or.inr (Or.inr c1))]
      have v := value i out c hc ho
      have d3 : U.val (l.drop (i + 1)) = 0 := by rw [List.drop_eq_nil_of_le (by omega)]; rfl
      have d4 : U.val (m.drop (i + 1)) = 0 := by rw [List.drop_eq_nil_of_le (by omega)]; rfl
      have z1 : l.getD i 0 = 0 := by rw [List.getD_eq_getElem?_getD, List.getElem?_eq_none (by omega)]; rfl
      have z2 : m.getD i 0 = 0 := by rw [List.getD_eq_getElem?_getD, List.getElem?_eq_none (by omega)]; rfl
      have q : (c + (l.getD i 0).toNat + (m.getD i 0).toNat) / 2 = 0 := by rw [z1, z2, c1]; decide
      rw [q, d3, d4] at v
      rw [q, show ((0 : Nat) : Int) = 0 from rfl, stop k (i + 1) _ (by omega) (by omega) (bit i out _ hb) (by simp [ho]) (by omega) (by omega), ← v]
      simp
  | succ e ih =>
    intro k i out c hc h1 h2 hb ho hs hk
    by_cases any : i < l.length ∨ i < m.length ∨ c = 1
    · obtain ⟨k, rfl⟩ : ∃ m, k = m + 2 := ⟨k - 2, by omega⟩
      have g1 := U.getD_isb hl i
      have g2 := U.getD_isb hm i
      rw [step k i out c hc ho (by omega) any]
      rw [ih k (i + 1) _ _ (by omega) (by omega) (by omega) (bit i out _ hb) (by simp [ho]) (by omega) (by omega), value i out c hc ho]
    · have c0 : c = 0 := by omega
      subst c0
      have d1 : U.val (l.drop i) = 0 := by rw [List.drop_eq_nil_of_le (by omega)]; rfl
      have d2 : U.val (m.drop i) = 0 := by rw [List.drop_eq_nil_of_le (by omega)]; rfl
      have := stop k i out (by omega) (by omega) hb ho (by omega) (by omega)
      rw [show ((0 : Nat) : Int) = 0 from rfl, this, d1, d2]
      simp
theorem add_eq (l m : List Int) (hl : U.isb l) (hm : U.isb m) (n : Nat) (h1 : l.length ≤ n) (h2 : m.length ≤ n) (hn : n < 17592186044000) (k : Nat) (hk : 3 * n + 8 < k) : gimbalref02_Add.f k l m = some (U.binl (U.val l + U.val m)) := by
  unfold gimbalref02_Add.f
  have := add_l0 l m hl hm n k 0 [] 0 (by omega) (by omega) (by omega) U.isb_nil rfl (by omega) (by omega)
  rw [show ((0 : Nat) : Int) = 0 from rfl] at this
  rw [this]
  simp [U.val]
theorem add_binl (a b n : Nat) (h1 : U.blen a ≤ n) (h2 : U.blen b ≤ n) (hn : n < 17592186044000) (k : Nat) (hk : 3 * n + 8 < k) : gimbalref02_Add.f k (U.binl a) (U.binl b) = some (U.binl (a + b)) := by
  rw [add_eq _ _ (U.isb_binl a) (U.isb_binl b) n h1 h2 hn k hk, U.val_binl, U.val_binl]
theorem arith6 {a b c d e f g h : Nat} (inv : a + e = b + h) (e2 : c + d = f + g + e) : a + c + d = b + f + (h + g) := by omega
theorem val_take_any (m : List Int) (i : Nat) : U.val (m.take (i + 1)) = U.val (m.take i) + 2 ^ i * (m.getD i 0).toNat := by
  by_cases h : i < m.length
  · exact U.val_take_succ h
  · have hge : m.length ≤ i := Nat.le_of_not_lt h
    have t1 : m.take (i + 1) = m := List.take_of_length_le (Nat.le_succ_of_le hge)
    have t2 : m.take i = m := List.take_of_length_le hge
    have t3 : m.getD i 0 = 0 := by rw [List.getD_eq_getElem?_getD, List.getElem?_eq_none hge]; rfl
    rw [t1, t2, t3]
    rfl
def SubInv (l m out : List Int) (i c : Nat) : Prop := U.val (l.take i) + 2 ^ i * c = U.val (m.take i) + U.val out
theorem sub_inv (l m out : List Int) (hl : U.isb l) (hm : U.isb m) (i c c' : Nat) (x : Int) (ho : out.length = i) (inv : SubInv l m out i c)
    (hx : x = 0 ∨ x = 1) (he : l.getD i 0 - (c : Int) - m.getD i 0 + 2 * (c' : Int) = x) : SubInv l m (out ++ [x]) (i + 1) c' := by
  have e : (l.getD i 0).toNat + 2 * c' = (m.getD i 0).toNat + x.toNat + c := by
    have g1 := U.getD_isb hl i
    have g2 := U.getD_isb hm i
    omega
  unfold SubInv at inv ⊢
  rw [val_take_any l i, val_take_any m i, val_snoc, ho, Nat.pow_succ, Nat.mul_assoc]
  have e2 : 2 ^ i * (l.getD i 0).toNat + 2 ^ i * (2 * c') = 2 ^ i * (m.getD i 0).toNat + 2 ^ i * x.toNat + 2 ^ i * c := by rw [← Nat.mul_add, e, Nat.mul_add, Nat.mul_add]
  exact arith6 inv e2
theorem sub_l0 (l m : List Int) (hl : U.isb l) (hm : U.isb m) (hs : l.length < 17592186044000) (d : Nat) : ∀ (k i : Nat) (out : List Int) (c : Nat), i + d = l.length → c ≤ 1 → U.isb out → out.length = i →
    SubInv l m out i c → d + l.length + 2 < k → m.length ≤ l.length → U.val m ≤ U.val l →
    gimbalref02_Sub.l0 k l m out (c : Int) (i : Int) = some (U.binl (U.val l - U.val m)) := by
  induction d with
  | zero =>
    intro k i out c hi hc hb ho inv hk hml hle
    obtain ⟨k, rfl⟩ : ∃ m, k = m + 1 := ⟨k - 1, by omega⟩
    have ei : i = l.length := by omega
    unfold SubInv at inv
    rw [List.take_of_length_le (by omega), List.take_of_length_le (by omega)] at inv
    have vl := U.val_lt hb
    rw [ho] at vl
    have c0 : c = 0 := by
      by_cases h : c = 0
      · exact h
      · have : c = 1 := by omega
        rw [this, Nat.mul_one] at inv; omega
    rw [c0, Nat.mul_zero, Nat.add_zero] at inv
    have fin : U.val out = U.val l - U.val m := by rw [inv, Nat.add_sub_cancel_left]
    rw [gimbalref02_Sub.l0, if_neg (by omega), trim_eq out hb (by omega) k (by omega), U.bs, fin]
  | succ d ih =>
    intro k i out c hi hc hb ho inv hk hml hle
    obtain ⟨k, rfl⟩ : ∃ m, k = m + 1 := ⟨k - 1, by omega⟩
    have g1 := U.getD_isb hl i
    have g2 := U.getD_isb hm i
    have hw : wrap64 ((i : Int) + 1) = ((i + 1 : Nat) : Int) := by rw [U.wrap64_id (by omega) (by omega)]; omega
    have z2 : ¬ (i : Int) < (m.length : Int) → m.getD i 0 = 0 := fun h => by rw [List.getD_eq_getElem?_getD, List.getElem?_eq_none (by omega)]; rfl
    have w1 : wrap64 (l.getD i 0 - (c : Int)) = l.getD i 0 - c := U.wrap64_id (by omega) (by omega)
    have w2 : wrap64 (wrap64 (l.getD i 0 - (c : Int)) - m.getD i 0) = l.getD i 0 - c - m.getD i 0 := by rw [w1]; exact U.wrap64_id (by omega) (by omega)
    have next : ∀ (x : Int) (c' : Nat), (x = 0 ∨ x = 1) → c' ≤ 1 → l.getD i 0 - (c : Int) - m.getD i 0 + 2 * (c' : Int) = x →
        gimbalref02_Sub.l0 k l m (out ++ [x]) (c' : Int) ((i + 1 : Nat) : Int) = some (U.binl (U.val l - U.val m)) := by
      intro x c' hx hc' he
      refine ih k (i + 1) (out ++ [x]) c' (by omega) hc' (U.isb_append hb (U.isb_cons hx U.isb_nil)) (by simp [ho]) ?_ (by omega) hml hle
      exact sub_inv l m out hl hm i c c' x ho inv hx he
    clear inv
    rw [gimbalref02_Sub.l0, if_pos (by omega), if_pos (by omega), hw, rd_nat, rd_nat]
    by_cases hlt : (i : Int) < (m.length : Int)
    · rw [if_pos hlt, w2]
      by_cases neg : l.getD i 0 - (c : Int) - m.getD i 0 < 0
      · rw [if_pos neg, if_pos (by omega), U.wrap64_id (by omega) (by omega)]
        exact next _ 1 (by omega) (by omega) (by omega)
      · rw [if_neg neg, if_pos (by omega)]
        exact next _ 0 (by omega) (by omega) (by omega)
    · have z := z2 hlt
      rw [if_neg hlt, w1]
      by_cases neg : l.getD i 0 - (c : Int) < 0
      · rw [if_pos neg, if_pos (by omega), U.wrap64_id (by omega) (by omega)]
        exact next _ 1 (by omega) (by omega) (by omega)
      · rw [if_neg neg, if_pos (by omega)]
        exact next _ 0 (by omega) (by omega) (by omega)
theorem sub_binl (a b : Nat) (h : b ≤ a) (hs : U.blen a < 17592186044000) (k : Nat) (hk : 2 * U.blen a + 2 < k) : gimbalref02_Sub.f k (U.binl a) (U.binl b) = some (U.binl (a - b)) := by
  unfold gimbalref02_Sub.f
  have := sub_l0 (U.binl a) (U.binl b) (U.isb_binl a) (U.isb_binl b) hs (U.binl a).length k 0 [] 0 (by omega) (by omega) U.isb_nil rfl (by simp [SubInv, U.val]) (by show U.blen a + U.blen a + 2 < k; omega) (U.blen_mono h) (by rw [U.val_binl, U.val_binl]; exact h)
  rw [show ((0 : Nat) : Int) = 0 from rfl] at this
  rw [this, U.val_binl, U.val_binl]
theorem list_eq (v : Nat) (hv : v < 340282366920938463463374607431768211456) (k : Nat) (hk : 1000 < k) : gimballaw03_list.f k ((v / 18446744073709551616 : Nat) : Int) ((v % 18446744073709551616 : Nat) : Int) = some (U.binl v) := by
  unfold gimballaw03_list.f
  have l1 := (U.blen_le 64 (v % 18446744073709551616)).2 (by omega)
  have l2 := (U.blen_le 64 (v / 18446744073709551616)).2 (by omega)
  rw [of_eq _ (by omega) k (by omega), of_eq _ (by omega) k (by omega)]
  simp only [U.bs]
  have u := up_binl (v / 18446744073709551616) 64 (by omega) k (by omega)
  rw [show ((64 : Nat) : Int) = 64 from rfl] at u
  have e : 2 ^ 64 = 18446744073709551616 := by decide
  rw [u, U.bs, e]
  have l3 := (U.blen_le 128 (v / 18446744073709551616 * 18446744073709551616)).2 (by omega)
  rw [add_binl _ _ 128 (by omega) l3 (by omega) k (by omega), U.bs]
  congr 2; omega
theorem and_mask_i64 {a : Int} (i : Nat) (hi : i ≤ 62) (h : -9223372036854775808 ≤ a) (h' : a < 9223372036854775808) : bits .and .i64 a (2 ^ i - 1 : Nat) = a % 2 ^ i := by
  show IntKind.i64.wrap ((BitVec.ofInt 64 a &&& BitVec.ofInt 64 ((2 ^ i - 1 : Nat) : Int)).toNat : Int) = _
  have hp := Nat.two_pow_pos i
  have hle : 2 ^ i ≤ 2 ^ 62 := Nat.pow_le_pow_right (by decide) hi
  have e : (BitVec.ofInt 64 ((2 ^ i - 1 : Nat) : Int)).toNat = 2 ^ i - 1 := by
    rw [BitVec.ofInt_natCast, BitVec.toNat_ofNat]; exact Nat.mod_eq_of_lt (by omega)
  have e2 : ((BitVec.ofInt 64 a).toNat : Int) = a % 18446744073709551616 := by
    rw [BitVec.toNat_ofInt]
    exact Int.toNat_of_nonneg (by omega)
  have c : ((2 : Int) ^ i) = ((2 ^ i : Nat) : Int) := by simp
  have dv : ((2 ^ i : Nat) : Int) ∣ 18446744073709551616 := by
    have : (2 ^ i) ∣ (2 ^ 64) := Nat.pow_dvd_pow 2 (by omega)
    have := Int.natCast_dvd_natCast.mpr this
    simpa using this
  rw [BitVec.toNat_and, e, Nat.and_two_pow_sub_one_eq_mod, IntKind.wrap_i64, c]
  have m : (((BitVec.ofInt 64 a).toNat % 2 ^ i : Nat) : Int) = a % ((2 ^ i : Nat) : Int) := by
    rw [Int.natCast_emod, e2]
    exact Int.emod_emod_of_dvd a dv
  have b1 : 0 ≤ a % ((2 ^ i : Nat) : Int) := Int.emod_nonneg _ (by omega)
  have b2 : a % ((2 ^ i : Nat) : Int) < ((2 ^ i : Nat) : Int) := Int.emod_lt_of_pos _ (by omega)
  rw [m]
  omega
/-- A normal pattern's number times 2^1200. -/
def atN (p : Nat) : Nat := (p % 4503599627370496 + 4503599627370496) * 2 ^ (p / 4503599627370496 + 125)
theorem at_eq (p : Nat) (h1 : 4503599627370496 ≤ p) (h2 : p < 9218868437227405312) (k : Nat) (hk : 6000 < k) : gimballaw03_RoundNear_1.f k (p : Int) = some (U.binl (atN p)) := by
  obtain ⟨k, rfl⟩ : ∃ m, k = m + 1 := ⟨k - 1, by omega⟩
  have kd : kindOf (p : Int) = 3 := by
    unfold kindOf
    repeat (any_goals split)
    all_goals omega
  unfold gimballaw03_RoundNear_1.f
  rw [parts_eq k (p : Int) (by omega) (by omega), U.bs, if_neg (by rw [kd]; decide), if_pos kd]
  have e1 : (p : Int) % 4503599627370496 + 4503599627370496 = ((p % 4503599627370496 + 4503599627370496 : Nat) : Int) := by omega
  have e2 : wrap64 ((p : Int) / 4503599627370496 % 2048 - 1075 + 1200) = ((p / 4503599627370496 + 125 : Nat) : Int) := by rw [U.wrap64_id (by omega) (by omega)]; omega
  show ((gimbalref02_Of.f (k + 1) ((p : Int) % 4503599627370496 + 4503599627370496)).bind fun t239 => ((gimbalref02_Up.f (k + 1) t239 (wrap64 ((p : Int) / 4503599627370496 % 2048 - 1075 + 1200))).bind fun t242 => some t242)) = _
  have p53 : (2 : Nat) ^ 53 = 9007199254740992 := by decide
  have l := (U.blen_le 53 (p % 4503599627370496 + 4503599627370496)).2 (by rw [p53]; omega)
  rw [e1, e2, of_eq _ (by omega) (k + 1) (by omega), U.bs, up_binl _ _ (by omega) (k + 1) (by omega), U.bs]
  rfl
def dist (a x : Nat) : Nat := if a < x then x - a else a - x
theorem far_eq (a x : Nat) (k : Nat) (ha : U.blen a < 4000) (hx : U.blen x < 4000) (hk : 9000 < k) : gimballaw03_RoundNear_2.f k (U.binl a) (U.binl x) = some (U.binl (dist a x)) := by
  unfold gimballaw03_RoundNear_2.f dist
  rw [refcmp_binl a x (by omega) (by omega) k (by omega) (by omega), U.bs]
  have c := U.cmp3_cases (a : Int) (x : Int)
  by_cases h : a < x
  · rw [if_pos h, if_pos (by omega), sub_binl x a (by omega) (by omega) k (by omega), U.bs]
  · rw [if_neg h, if_neg (by omega), sub_binl a x (by omega) (by omega) k (by omega), U.bs]
theorem atN_form (T m : Nat) (h1 : 4503599627370496 ≤ m) (h2 : m ≤ 9007199254740992) : atN (T * 4503599627370496 + m) = m * 2 ^ (T + 126) := by
  unfold atN
  by_cases h : m = 9007199254740992
  · subst h
    rw [show (T * 4503599627370496 + 9007199254740992) % 4503599627370496 = 0 by omega, show (T * 4503599627370496 + 9007199254740992) / 4503599627370496 = T + 2 by omega]
    rw [show T + 2 + 125 = T + 126 + 1 by omega, Nat.pow_succ (n := 2) (m := T + 126)]
    generalize 2 ^ (T + 126) = s
    omega
  · rw [show (T * 4503599627370496 + m) % 4503599627370496 = m - 4503599627370496 by omega, show (T * 4503599627370496 + m) / 4503599627370496 = T + 1 by omega]
    rw [show T + 1 + 125 = T + 126 by omega, show m - 4503599627370496 + 4503599627370496 = m by omega]
theorem atN_next (T m : Nat) (h1 : 4503599627370496 ≤ m) (h2 : m ≤ 9007199254740992) : (m + 1) * 2 ^ (T + 126) ≤ atN (T * 4503599627370496 + m + 1) := by
  by_cases h : m = 9007199254740992
  · subst h
    unfold atN
    rw [show (T * 4503599627370496 + 9007199254740992 + 1) % 4503599627370496 = 1 by omega, show (T * 4503599627370496 + 9007199254740992 + 1) / 4503599627370496 = T + 2 by omega]
    rw [show T + 2 + 125 = T + 126 + 1 by omega, Nat.pow_succ (n := 2) (m := T + 126)]
    generalize 2 ^ (T + 126) = s
    omega
  · rw [Nat.add_assoc, atN_form T (m + 1) (by omega) (by omega)]; exact Nat.le_refl _
theorem atN_prev (T m : Nat) (hT : 1 ≤ T) (h1 : 4503599627370496 ≤ m) (h2 : m ≤ 9007199254740992) : (m = 4503599627370496 ∧ atN (T * 4503599627370496 + m - 1) ≤ m * 2 ^ (T + 126)) ∨ (4503599627370496 < m ∧ atN (T * 4503599627370496 + m - 1) = (m - 1) * 2 ^ (T + 126)) := by
  by_cases h : m = 4503599627370496
  · left
    refine ⟨h, ?_⟩
    subst h
    unfold atN
    rw [show (T * 4503599627370496 + 4503599627370496 - 1) % 4503599627370496 = 4503599627370495 by omega, show (T * 4503599627370496 + 4503599627370496 - 1) / 4503599627370496 = T by omega]
    rw [show T + 126 = T + 125 + 1 by omega, Nat.pow_succ (n := 2) (m := T + 125)]
    generalize 2 ^ (T + 125) = s
    omega
  · right
    refine ⟨by omega, ?_⟩
    rw [show T * 4503599627370496 + m - 1 = T * 4503599627370496 + (m - 1) by omega, atN_form T (m - 1) (by omega) (by omega)]
theorem near_up (Y X K A : Nat) (h1 : Y ≤ X + K) (h2 : X ≤ Y + K) (h3 : Y + 2 * K ≤ A) : dist Y X ≤ dist A X := by
  unfold dist; split <;> split <;> omega
theorem near_dn (Y X K A : Nat) (h1 : Y ≤ X + K) (h2 : X ≤ Y + K) (h3 : A + 2 * K ≤ Y) : dist Y X ≤ dist A X := by
  unfold dist; split <;> split <;> omega
theorem near_le (Y X A : Nat) (h1 : Y ≤ X) (h3 : A ≤ Y) : dist Y X ≤ dist A X := by
  unfold dist; split <;> split <;> omega
/-- What falls out, held against a half. -/
theorem half (v d : Nat) (hd : 0 < d) : (v / 2 ^ d + (if rUp v d false then 1 else 0)) * 2 ^ d ≤ v + 2 ^ (d - 1) ∧ v ≤ (v / 2 ^ d + (if rUp v d false then 1 else 0)) * 2 ^ d + 2 ^ (d - 1) ∧ ((v / 2 ^ d + (if rUp v d false then 1 else 0)) * 2 ^ d = v ↔ v % 2 ^ d = 0) := by
  obtain ⟨c, rfl⟩ : ∃ c, d = c + 1 := ⟨d - 1, by omega⟩
  rw [show c + 1 - 1 = c by omega]
  have hp := Nat.two_pow_pos c
  have e1 : v / 2 ^ (c + 1) = v / 2 ^ c / 2 := by rw [Nat.pow_succ, Nat.div_div_eq_div_mul]
  have dm := Nat.div_add_mod v (2 ^ c)
  have dm2 := Nat.div_add_mod v (2 ^ (c + 1))
  have lt := Nat.mod_lt v hp
  have lt2 := Nat.mod_lt v (Nat.two_pow_pos (c + 1))
  have up : rUp v (c + 1) false = true ↔ v / 2 ^ c % 2 = 1 ∧ (v % 2 ^ c ≠ 0 ∨ v / 2 ^ c / 2 % 2 = 1) := by
    unfold rUp
    rw [show c + 1 - 1 = c by omega, e1]
    simp
  rw [Nat.pow_succ] at dm2 lt2 ⊢
  have e2 : v / (2 ^ c * 2) = v / 2 ^ c / 2 := by rw [Nat.div_div_eq_div_mul]
  rw [e2] at dm2 ⊢
  obtain ⟨p, hpp⟩ : ∃ p, p = 2 ^ c := ⟨_, rfl⟩
  obtain ⟨q, hq⟩ : ∃ q, q = v / 2 ^ c := ⟨_, rfl⟩
  obtain ⟨r, hr⟩ : ∃ r, r = v % 2 ^ c := ⟨_, rfl⟩
  obtain ⟨s, hs⟩ : ∃ s, s = v % (2 ^ c * 2) := ⟨_, rfl⟩
  rw [← hq, ← hr] at up
  rw [← hq, ← hr, ← hpp] at dm
  rw [← hq, ← hs, ← hpp] at dm2
  rw [← hr, ← hpp] at lt
  rw [← hs, ← hpp] at lt2
  rw [← hq, ← hs, ← hpp]
  rw [← hpp] at hp
  -- p * q + r = v, p * 2 * (q / 2) + s = v
  obtain ⟨t, b, hqb, hb⟩ : ∃ t b, q = 2 * t + b ∧ b < 2 := ⟨q / 2, q % 2, by omega, by omega⟩
  have q2 : q / 2 = t := by omega
  have qm : q % 2 = b := by omega
  rw [q2] at dm2 ⊢
  rw [q2, qm] at up
  obtain ⟨z, hz⟩ : ∃ z, z = p * t := ⟨_, rfl⟩
  have m1 : p * q = 2 * z + p * b := by rw [hqb, hz, Nat.mul_add, Nat.mul_left_comm]
  have m2 : p * 2 * t = 2 * z := by rw [hz, Nat.mul_right_comm, Nat.mul_comm]
  have m3 : t * (p * 2) = 2 * z := by rw [← m2, Nat.mul_comm]
  have m4 : (t + 1) * (p * 2) = 2 * z + 2 * p := by rw [Nat.add_mul, m3]; omega
  rw [m1] at dm
  rw [m2] at dm2
  by_cases hu : rUp v (c + 1) false = true
  · rw [if_pos hu, m4]
    have u := up.1 hu
    rw [u.1] at dm
    refine ⟨by omega, by omega, by omega⟩
  · rw [if_neg hu, Nat.add_zero, m3]
    have b01 : b = 0 ∨ b = 1 := by omega
    rcases b01 with hb0 | hb1
    · subst hb0; rw [Nat.mul_zero] at dm; refine ⟨by omega, by omega, by omega⟩
    · subst hb1; rw [Nat.mul_one] at dm
      have r0 : r = 0 := by
        by_cases c0 : r = 0
        · exact c0
        · exact absurd (up.2 ⟨rfl, Or.inl c0⟩) hu
      refine ⟨by omega, by omega, by omega⟩
theorem blen_lt {a n : Nat} (h : a < 2 ^ n) (hn : n ≤ 3999) : U.blen a < 4000 := by have := (U.blen_le n a).2 h; omega
theorem mul_lt_pow {a b m n : Nat} (h1 : a < 2 ^ m) (h2 : b ≤ 2 ^ n) : a * b < 2 ^ (m + n) := by
  rw [Nat.pow_add]
  exact Nat.mul_lt_mul_of_lt_of_le h1 h2 (Nat.two_pow_pos _)
theorem atN_lt (p : Nat) (h : p / 4503599627370496 ≤ 2000) : U.blen (atN p) < 4000 := by
  refine blen_lt (n := 53 + 2125) ?_ (by decide)
  unfold atN
  have p53 : (2 : Nat) ^ 53 = 9007199254740992 := by decide
  have h1 : p % 4503599627370496 + 4503599627370496 < 2 ^ 53 := by rw [p53]; omega
  exact mul_lt_pow h1 (Nat.pow_le_pow_right (by decide) (by omega))
/-- All that is asked of the numbers alone. -/
theorem facts (v : Nat) (hv : v ≠ 0) (e1 : Nat) (h1 : 700 ≤ e1) (h2 : e1 ≤ 1723) (hL : U.blen v ≤ 128) (b : Nat) (hb : b = rPat v ((e1 : Int) - 1200) false) :
    (4503599627370496 * 522 ≤ b ∧ b ≤ 4503599627370496 * 1700) ∧ dist (atN b) (v * 2 ^ e1) ≤ dist (atN (b + 1)) (v * 2 ^ e1) ∧ dist (atN b) (v * 2 ^ e1) ≤ dist (atN (b - 1)) (v * 2 ^ e1) ∧ (dist (atN b) (v * 2 ^ e1) = 0 ↔ rLost v (rDrop (U.blen v) ((e1 : Int) - 1200)) false = false) := by
  have lb : U.blen v ≠ 0 := fun c => hv (U.blen_eq_zero.1 c)
  have dr : rDrop (U.blen v) ((e1 : Int) - 1200) = (U.blen v : Int) - 53 := by unfold rDrop; rw [if_neg (by omega)]
  have le := rM_le v ((e1 : Int) - 1200) false hv
  have ge := rM_ge v ((e1 : Int) - 1200) false hv dr
  have vg := U.blen_ge v hv
  unfold rPat at hb
  rw [dr] at hb le ge ⊢
  obtain ⟨L, hLe⟩ : ∃ L, L = U.blen v := ⟨_, rfl⟩
  rw [← hLe] at hb le ge vg hL lb ⊢
  obtain ⟨T, hT⟩ : ∃ T : Nat, T = ((e1 : Int) - 1200 + ((L : Int) - 53) + 1074).toNat := ⟨_, rfl⟩
  obtain ⟨M, hM⟩ : ∃ M : Nat, M = rM v ((L : Int) - 53) false := ⟨_, rfl⟩
  rw [← hT, ← hM] at hb
  rw [← hM] at le ge
  have hTb : (T : Int) + 126 = e1 + ((L : Int) - 53) := by omega
  refine ⟨by omega, ?_⟩
  have a0 := atN_form T M ge le
  have a1 := atN_next T M ge le
  have a2 := atN_prev T M (by omega) ge le
  rw [← hb] at a0 a1 a2
  rw [a0]
  by_cases hd : (L : Int) - 53 ≤ 0
  · -- nothing falls out
    have m : M = v * 2 ^ (53 - L) := by
      rw [hM]; unfold rM; rw [if_neg (by omega), show (-((L : Int) - 53)).toNat = 53 - L by omega]
    have s : M * 2 ^ (T + 126) = v * 2 ^ e1 := by rw [m, Nat.mul_assoc, ← Nat.pow_add, show 53 - L + (T + 126) = e1 by omega]
    have z : dist (M * 2 ^ (T + 126)) (v * 2 ^ e1) = 0 := by rw [s]; unfold dist; rw [if_neg (Nat.lt_irrefl _)]; omega
    have l : rLost v ((L : Int) - 53) false = false := by unfold rLost; rw [decide_eq_false (by omega)]; rfl
    rw [z, l]
    exact ⟨Nat.zero_le _, Nat.zero_le _, by simp⟩
  · obtain ⟨d, hdd⟩ : ∃ d : Nat, d = L - 53 := ⟨_, rfl⟩
    have hd0 : 0 < d := by omega
    have dn : ((L : Int) - 53).toNat = d := by omega
    have hf := half v d hd0
    have m : M = v / 2 ^ d + (if rUp v d false then 1 else 0) := by
      rw [hM]; unfold rM; rw [if_pos (by omega), dn]
    rw [← m] at hf
    have l : rLost v ((L : Int) - 53) false = false ↔ v % 2 ^ d = 0 := by unfold rLost; rw [decide_eq_true (show (0 : Int) < (L : Int) - 53 by omega), dn]; simp
    have pw : 2 ^ (T + 126) = 2 ^ d * 2 ^ e1 := by rw [← Nat.pow_add, show T + 126 = d + e1 by omega]
    have hh : 2 ^ d = 2 * 2 ^ (d - 1) := by rw [show d = d - 1 + 1 by omega, Nat.pow_succ, show d - 1 + 1 - 1 = d - 1 by omega, Nat.mul_comm]
    have vm : M = 4503599627370496 → M * 2 ^ d ≤ v := by
      intro c
      rw [c, show 4503599627370496 = 2 ^ 52 by decide, ← Nat.pow_add, show 52 + d = L - 1 by omega]
      exact vg
    rw [l, pw, ← Nat.mul_assoc]
    rw [pw, ← Nat.mul_assoc] at a1 a2
    have tp := Nat.two_pow_pos e1
    -- names for what isn't linear
    obtain ⟨t, ht⟩ : ∃ t, t = 2 ^ e1 := ⟨_, rfl⟩
    obtain ⟨H, hH⟩ : ∃ H, H = 2 ^ (d - 1) := ⟨_, rfl⟩
    obtain ⟨D, hD⟩ : ∃ D, D = 2 ^ d := ⟨_, rfl⟩
    rw [← hH] at hh hf
    rw [← hD] at hh hf vm a1 a2 ⊢
    rw [← ht] at a1 a2 tp ⊢
    have k1 : M * D * t ≤ v * t + H * t := by rw [← Nat.add_mul]; exact Nat.mul_le_mul_right t hf.1
    have k2 : v * t ≤ M * D * t + H * t := by rw [← Nat.add_mul]; exact Nat.mul_le_mul_right t hf.2.1
    have k3 : (M + 1) * D * t = M * D * t + 2 * (H * t) := by rw [Nat.add_mul, Nat.add_mul, Nat.one_mul, hh, Nat.mul_assoc 2 H t]
    rw [k3] at a1
    refine ⟨near_up _ _ _ _ k1 k2 a1, ?_, ?_⟩
    · rcases a2 with ⟨c, a⟩ | ⟨c, a⟩
      · refine near_le _ _ _ (Nat.mul_le_mul_right t (vm c)) ?_
        exact a
      · refine near_dn _ _ _ _ k1 k2 ?_
        rw [a, ← Nat.mul_assoc]
        obtain ⟨m', hm'⟩ : ∃ m', M = m' + 1 := ⟨M - 1, by omega⟩
        rw [hm', show m' + 1 - 1 = m' by omega, Nat.add_mul, Nat.add_mul, Nat.one_mul, hh, Nat.mul_assoc 2 H t]
        exact Nat.le_refl _
    · rw [← hf.2.2]
      constructor
      · intro z
        have : M * D * t = v * t := by unfold dist at z; split at z <;> omega
        exact Nat.eq_of_mul_eq_mul_right tp this
      · intro z
        rw [z]; unfold dist; rw [if_neg (Nat.lt_irrefl _)]; omega
theorem binl_len (n : Nat) : ((U.binl n).length : Int) = 0 ↔ n = 0 := by
  have := U.blen_eq_zero (n := n)
  unfold U.blen at this
  omega
theorem cmp3_le (a b : Nat) (h : a ≤ b) : U.cmp3 (a : Int) (b : Int) ≤ 0 := by
  have c := U.cmp3_cases (a : Int) (b : Int)
  omega
theorem cmp_le (a b k : Nat) (ha : U.blen a < 4000) (hb : U.blen b < 4000) (hk : 9000 < k) (h : a ≤ b) : ∃ c, gimbalref02_Cmp.f k (U.binl a) (U.binl b) = some c ∧ c ≤ 0 :=
  ⟨_, refcmp_binl a b (by omega) (by omega) k (by omega) (by omega), cmp3_le a b h⟩
theorem main (k : Nat) (hk : 10000 < k) (v : Nat) (hv : v < 340282366920938463463374607431768211456) (h0 : v ≠ 0) (E : Int) (hE : -500 ≤ E) (hE2 : E ≤ 523) (b : Nat) (hb : b = rPat v E false) (f : Int)
    (hf : f = 0 ↔ rLost v (rDrop (U.blen v) E) false = false) :
    gimballaw03_RoundNear.j1 (k + 2) E (b : Int) f false ((v / 18446744073709551616 : Nat) : Int) ((v % 18446744073709551616 : Nat) : Int) = some true := by
  have hL := (U.blen_le 128 v).2 (by rw [show (2 : Nat) ^ 128 = 340282366920938463463374607431768211456 by decide]; exact hv)
  obtain ⟨e1, he1⟩ : ∃ e1 : Nat, E + 1200 = (e1 : Int) := ⟨(E + 1200).toNat, by omega⟩
  have hE3 : E = (e1 : Int) - 1200 := by omega
  subst hE3
  obtain ⟨⟨b1, b2⟩, n1, n2, n3⟩ := facts v h0 e1 (by omega) (by omega) hL b hb
  have w : wrap64 ((e1 : Int) - 1200 + 1200) = (e1 : Int) := by rw [U.wrap64_id (by omega) (by omega)]; omega
  have lx : U.blen (v * 2 ^ e1) < 4000 := by rw [U.blen_mul_pow v e1 h0]; omega
  have la : ∀ p, p ≤ 4503599627370496 * 1900 → U.blen (atN p) < 4000 := fun p hp => atN_lt p (by omega)
  have nx : nextOf (b : Int) = ((b + 1 : Nat) : Int) := by rw [next_form _ (by omega) (by omega), if_neg (by omega), if_neg (by omega), if_neg (by omega)]; omega
  have pv : prevOf (b : Int) = ((b - 1 : Nat) : Int) := by rw [prev_form _ (by omega) (by omega), if_neg (by omega), if_neg (by omega), if_neg (by omega)]; omega
  have ld : ∀ p, p ≤ 4503599627370496 * 1900 → U.blen (dist (atN p) (v * 2 ^ e1)) < 4000 := by
    intro p hp
    have h1 := la p hp
    unfold dist
    split
    · have := U.blen_mono (Nat.sub_le (v * 2 ^ e1) (atN p)); omega
    · have := U.blen_mono (Nat.sub_le (atN p) (v * 2 ^ e1)); omega
  rw [gimballaw03_RoundNear.j1, if_neg (by decide), list_eq v hv (k + 1) (by omega), U.bs, w, up_binl v e1 (by omega) (k + 1) (by omega), U.bs]
  rw [at_eq b (by omega) (by omega) (k + 1) (by omega), U.bs, far_eq _ _ (k + 1) (la b (by omega)) lx (by omega), U.bs]
  rw [next_eq k _ (by omega) (by omega), U.bs, nx, at_eq (b + 1) (by omega) (by omega) (k + 1) (by omega), U.bs, far_eq _ _ (k + 1) (la (b + 1) (by omega)) lx (by omega), U.bs]
  have q1 := ld b (by omega)
  have q2 := ld (b + 1) (by omega)
  have q3 := ld (b - 1) (by omega)
  obtain ⟨c1, e1c, l1⟩ := cmp_le _ _ (k + 1) q1 q2 (by omega) n1
  obtain ⟨c2, e2c, l2⟩ := cmp_le _ _ (k + 1) q1 q3 (by omega) n2
  rw [e1c, U.bs, if_pos l1]
  rw [prev_eq k _ (by omega) (by omega), U.bs, pv, at_eq (b - 1) (by omega) (by omega) (k + 1) (by omega), U.bs, far_eq _ _ (k + 1) (la (b - 1) (by omega)) lx (by omega), U.bs]
  rw [e2c, U.bs, if_pos l2]
  congr 1
  rw [beq_iff_eq, Bool.eq_iff_iff, beq_iff_eq, beq_iff_eq, binl_len, n3, hf]
theorem law_j0 (k : Nat) (hk : 20000 < k) (v : Nat) (hv : v < 340282366920938463463374607431768211456) (x E : Int) (hx : x = E + 500) (hE : -500 ≤ E) (hE2 : E ≤ 523) :
    gimballaw03_RoundNear.j0 (k + 6) x ((v / 18446744073709551616 : Nat) : Int) ((v % 18446744073709551616 : Nat) : Int) = some true := by
  subst hx
  have w : wrap64 (E + 500 - 500) = E := by rw [U.wrap64_id (by omega) (by omega)]; omega
  rw [gimballaw03_RoundNear.j0, w, round_eq k false v E false hv, U.bs, clampE_id (by omega) (by omega), wzero_eq v hv, U.bs]
  by_cases h0 : v = 0
  · rw [if_pos (by simpa using h0)]
    have z : rBits false v E false = 0 := by unfold rBits; rw [if_neg (by decide), if_pos h0]; rfl
    rw [z, gimballaw03_RoundNear.j1, if_pos rfl, wzero_eq v hv, U.bs, decide_eq_true h0]; rfl
  · rw [if_neg (by simpa using h0)]
    have hL := (U.blen_le 128 v).2 (by rw [show (2 : Nat) ^ 128 = 340282366920938463463374607431768211456 by decide]; exact hv)
    obtain ⟨e1, he1⟩ : ∃ e1 : Nat, E + 1200 = (e1 : Int) := ⟨(E + 1200).toNat, by omega⟩
    have hE3 : E = (e1 : Int) - 1200 := by omega
    have fb := (facts v h0 e1 (by omega) (by omega) hL _ rfl).1
    rw [← hE3] at fb
    have rb : rBits false v E false = ((rPat v E false : Nat) : Int) := by unfold rBits; rw [if_neg (by decide), if_neg h0, if_neg (by omega)]; omega
    have rf : rFlags v E false = rFlag v E false := by unfold rFlags; rw [if_neg h0, if_neg (by omega)]
    rw [rb, rf, finite_eq _ (by omega) (by omega), U.bs, decide_eq_true (by omega)]
    refine main (k + 3) (by omega) v hv h0 E hE hE2 _ rfl _ ?_
    unfold rFlag
    cases rLost v (rDrop (U.blen v) E) false with
    | false => simp
    | true => rw [if_pos rfl]; split <;> simp
theorem RoundNear : gimballaw03_RoundNear.Pure := by
  intro h l a wh wl wa
  obtain ⟨h0, h1⟩ := U.wf_u64 wh
  obtain ⟨l0, l1⟩ := U.wf_u64 wl
  obtain ⟨x0, x1⟩ := U.wf_i64 wa
  obtain ⟨h, rfl⟩ := Int.eq_ofNat_of_zero_le h0
  obtain ⟨l, rfl⟩ := Int.eq_ofNat_of_zero_le l0
  obtain ⟨v, hv, eh, el⟩ : ∃ v : Nat, v < 340282366920938463463374607431768211456 ∧ h = v / 18446744073709551616 ∧ l = v % 18446744073709551616 := ⟨h * 18446744073709551616 + l, by omega, by omega, by omega⟩
  subst eh el
  refine ⟨30006, ?_⟩
  have a1023 := and_mask_i64 10 (by decide) x0 x1
  rw [show ((2 ^ 10 - 1 : Nat) : Int) = 1023 from rfl, show (2 : Int) ^ 10 = 1024 from rfl] at a1023
  unfold gimballaw03_RoundNear.f
  have hd := head_eq 30001
  rw [hd, U.bs, if_pos rfl, a1023]
  by_cases c : a % 1024 ≥ 800
  · rw [if_pos c, U.wrap64_id (by omega) (by omega)]
    exact law_j0 30000 (by decide) v hv _ (a % 1024 - 1300) (by omega) (by omega) (by omega)
  · rw [if_neg c]
    exact law_j0 30000 (by decide) v hv _ (a % 1024 - 500) (by omega) (by omega) (by omega)
end Go.Proofs.Ytlnpcbhbcmhbkaa.Pure
