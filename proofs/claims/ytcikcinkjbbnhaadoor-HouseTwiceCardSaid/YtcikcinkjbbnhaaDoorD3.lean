/- Exact numbers: the bits that are nothing at the end, and what is left without them. -/
import Derived.Test.YtcikcinkjbbnhaaDoorD2
import Derived.Test.YtcikcinkjbbnhaaDoorC22
import Derived.Test.YtcikcinkjbbnhaaDoorMT3
set_option linter.unusedSimpArgs false
set_option linter.unusedVariables false
set_option pp.deepTerms false
set_option pp.maxSteps 1500
set_option maxRecDepth 10000
set_option maxHeartbeats 4000000
namespace Go.Proofs.YtcikcinkjbbnhaaDoor.M
open Go Go.Proofs

theorem wrap_u32 (n : Int) : IntKind.u32.wrap n = n % 4294967296 := by simp [IntKind.wrap, IntKind.signed, IntKind.bits]
theorem nat_low (s m k : Nat) (h : 2 ^ s * (2 * m + 1) < 2 ^ k) : (2 ^ s * (2 * m + 1)) &&& (2 ^ k - 2 ^ s * (2 * m + 1)) = 2 ^ s := by
  have hp : 0 < 2 ^ s := Nat.two_pow_pos s
  have e0 : 2 ^ s * (2 * m + 1) = 2 ^ (s + 1) * m + 2 ^ s := by rw [Nat.pow_succ, Nat.mul_add, ← Nat.mul_assoc, Nat.mul_one]
  have e1 : 2 ^ s * (2 * m + 1) - 1 = 2 ^ (s + 1) * m + (2 ^ s - 1) := by omega
  have hlt : 2 ^ s < 2 ^ (s + 1) := by rw [Nat.pow_succ]; omega
  have hk : s < k := by
    rcases Nat.lt_or_ge s k with h' | h'
    · exact h'
    · have := Nat.pow_le_pow_right (show 0 < 2 by decide) h'
      have h2 : 2 ^ s * 1 ≤ 2 ^ s * (2 * m + 1) := Nat.mul_le_mul_left _ (by omega)
      omega
  refine Nat.eq_of_testBit_eq fun i => ?_
  rw [Nat.testBit_and]
  have e2 : 2 ^ k - 2 ^ s * (2 * m + 1) = 2 ^ k - ((2 ^ s * (2 * m + 1) - 1) + 1) := by
    have : 1 ≤ 2 ^ s * (2 * m + 1) := Nat.mul_pos hp (by omega)
    omega
  rw [e2, Nat.testBit_two_pow_sub_succ (by omega), e1, e0, Nat.testBit_two_pow_mul_add _ hlt, Nat.testBit_two_pow_mul_add _ (show 2 ^ s - 1 < 2 ^ (s + 1) by omega), Nat.testBit_two_pow]
  by_cases h1 : i < s + 1
  · rw [if_pos h1, if_pos h1, Nat.testBit_two_pow_sub_one]
    by_cases h2 : s = i
    · subst h2; simp [hk]
    · simp [h2]
  · rw [if_neg h1, if_neg h1]
    have : s ≠ i := by omega
    simp [this]
    intro a b
    simp [a]
theorem low_bit {x : Int} {s : Nat} {m : Int} (hs : s < 32) (hx : x = 2 ^ s * (2 * m + 1)) (hr : 0 ≤ x ∧ x < 4294967296) : bits .and .u32 x (IntKind.u32.wrap (-x)) = 2 ^ s := by
  have hm : 0 ≤ m := by
    rcases Int.lt_or_le m 0 with h | h
    · exfalso
      have h1 := tpos s
      have : (2 : Int) ^ s * (2 * m + 1) ≤ 2 ^ s * (-1) := Int.mul_le_mul_of_nonneg_left (by omega) (by omega)
      omega
    · exact h
  obtain ⟨m, rfl⟩ := Int.eq_ofNat_of_zero_le hm
  obtain ⟨X, hX⟩ : ∃ X : Nat, 2 ^ s * (2 * m + 1) = X := ⟨_, rfl⟩
  have hxX : x = (X : Int) := by rw [hx, ← hX]; norm_cast
  subst hxX
  have hX32 : X < 2 ^ 32 := by omega
  have hX1 : 1 ≤ X := by rw [← hX]; exact Nat.mul_pos (Nat.two_pow_pos s) (by omega)
  have hw : IntKind.u32.wrap (-(X : Int)) = ((2 ^ 32 - X : Nat) : Int) := by
    rw [wrap_u32]
    omega
  rw [hw]
  unfold bits
  dsimp only
  rw [BitVec.toNat_and]
  have b1 : ∀ Y : Nat, Y < 2 ^ 32 → (BitVec.ofInt IntKind.u32.bits (Y : Int)).toNat = Y := fun Y hY => by
    have : IntKind.u32.bits = 32 := rfl
    rw [this, BitVec.toNat_ofInt]
    omega
  have hnl := nat_low s m 32 (by rw [hX]; exact hX32)
  rw [hX] at hnl
  rw [b1 X hX32, b1 _ (by omega), hnl]
  rw [wrap_u32]
  have h2 := two32 (s := s) (by omega)
  have h3 : (2 : Int) ^ 1 ≤ 2 ^ (32 - s) := by
    exact_mod_cast Nat.pow_le_pow_right (show 0 < 2 by decide) (show 1 ≤ 32 - s by omega)
  have h4 := tpos s
  have h5 : (2 : Int) ^ s * 2 ^ 1 ≤ 2 ^ s * 2 ^ (32 - s) := Int.mul_le_mul_of_nonneg_left h3 (by omega)
  rw [h2] at h5
  have h6 : (((2 ^ s : Nat)) : Int) = 2 ^ s := Int.natCast_pow 2 s
  rw [h6]
  exact Int.emod_eq_of_lt (by omega) (by omega)
end Go.Proofs.YtcikcinkjbbnhaaDoor.M
