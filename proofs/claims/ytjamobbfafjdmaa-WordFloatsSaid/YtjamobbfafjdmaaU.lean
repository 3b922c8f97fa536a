/- Plain lemmas on 64-bit words as Int: masks, joins, signs. Conditions: the words lie in [0, 2^64). -/
import Derived.Laws.BitsAllLaws
import Derived.Laws.BitsLemmas
import Derived.Laws.MathBits
import Derived.RowKit
namespace Go.Proofs.Ytjamobbfafjdmaa.U
open Go Go.RowKit

theorem wf_u64 {a : Int} (h : (Lit.int .u64 a).wf = true) : 0 ≤ a ∧ a < 18446744073709551616 := by
  simp only [Lit.wf, IntKind.min, IntKind.max, IntKind.signed, IntKind.bits, Bool.and_eq_true] at h
  simp at h; omega
theorem wf_i64 {a : Int} (h : (Lit.int .i64 a).wf = true) : -9223372036854775808 ≤ a ∧ a < 9223372036854775808 := by
  simp only [Lit.wf, IntKind.min, IntKind.max, IntKind.signed, IntKind.bits, Bool.and_eq_true, decide_eq_true_eq] at h
  simp at h; omega
theorem bs {α β : Type} (a : α) (f : α → Option β) : (some a).bind f = f a := by rw [Option.bind_some]
theorem wrap_u64 (a : Int) : IntKind.u64.wrap a = a % 18446744073709551616 := IntKind.wrap_u64 a
theorem wrap_u64_id {a : Int} (h : 0 ≤ a) (h' : a < 18446744073709551616) : IntKind.u64.wrap a = a := by rw [wrap_u64]; omega
theorem wrap_nat {n : Nat} (h : n < 18446744073709551616) : IntKind.u64.wrap (n : Int) = (n : Int) := wrap_u64_id (by omega) (by omega)
theorem wrap64_id {a : Int} (h : -9223372036854775808 ≤ a) (h' : a < 9223372036854775808) : wrap64 a = a := by unfold wrap64; omega
theorem tdiv_nn {a b : Int} (h : 0 ≤ a) : Int.tdiv a b = a / b := Int.tdiv_eq_ediv_of_nonneg h
theorem tmod_nn {a b : Int} (h : 0 ≤ a) : Int.tmod a b = a % b := Int.tmod_eq_emod_of_nonneg h

theorem and_2047 {a : Int} (h : 0 ≤ a) (h' : a < 18446744073709551616) : bits .and .u64 a 2047 = a % 2048 := by go_bits2
theorem and_52 {a : Int} (h : 0 ≤ a) (h' : a < 18446744073709551616) : bits .and .u64 a 4503599627370495 = a % 4503599627370496 := by go_bits2
theorem and_1 {a : Int} (h : 0 ≤ a) (h' : a < 18446744073709551616) : bits .and .u64 a 1 = a % 2 := by go_bits2
theorem and_63 {a : Int} (h : 0 ≤ a) (h' : a < 18446744073709551616) : bits .and .u64 a 9223372036854775808 = a / 9223372036854775808 * 9223372036854775808 := by go_bits2
theorem or_52 {a : Int} (h : 0 ≤ a) (h' : a < 4503599627370496) : bits .or .u64 a 4503599627370496 = a + 4503599627370496 := by go_bits2
theorem or_63 {a : Int} (h : 0 ≤ a) (h' : a < 9223372036854775808) : bits .or .u64 a 9223372036854775808 = a + 9223372036854775808 := by go_bits2
theorem nat_xor_top (a : Nat) (h : a < 2 ^ 63) : a ^^^ 2 ^ 63 = a + 2 ^ 63 := by
  have e : a + 2 ^ 63 = 2 ^ 63 ||| a := by
    have := Nat.two_pow_add_eq_or_of_lt h 1
    rw [Nat.mul_one] at this
    omega
  rw [e]
  apply Nat.eq_of_testBit_eq
  intro i
  rw [Nat.testBit_xor, Nat.testBit_or, Nat.testBit_two_pow]
  by_cases hi : 63 = i
  · subst hi
    rw [Nat.testBit_lt_two_pow h]; rfl
  · simp [hi]
theorem nat_xor_top' (a : Nat) (h : a < 2 ^ 64) : a ^^^ 2 ^ 63 = if a < 2 ^ 63 then a + 2 ^ 63 else a - 2 ^ 63 := by
  by_cases h1 : a < 2 ^ 63
  · rw [if_pos h1, nat_xor_top a h1]
  · rw [if_neg h1]
    obtain ⟨b, rfl⟩ : ∃ b, a = b + 2 ^ 63 := ⟨a - 2 ^ 63, by omega⟩
    have hb : b < 2 ^ 63 := by omega
    rw [← nat_xor_top b hb, Nat.xor_assoc, Nat.xor_self, Nat.xor_zero, nat_xor_top b hb]
    omega
theorem xor_63 {a : Int} (h : 0 ≤ a) (h' : a < 18446744073709551616) : bits .xor .u64 a 9223372036854775808 = if a < 9223372036854775808 then a + 9223372036854775808 else a - 9223372036854775808 := by
  rw [u64_xor a 9223372036854775808 h h' (by decide) (by decide)]
  have e := nat_xor_top' a.toNat (by omega)
  have e2 : (9223372036854775808 : Int).toNat = 2 ^ 63 := by decide
  rw [e2, e]
  split <;> split <;> omega
theorem andNot_63 {a : Int} (h : 0 ≤ a) (h' : a < 18446744073709551616) : bits .andNot .u64 a 9223372036854775808 = a % 9223372036854775808 := by
  rw [u64_andNot a 9223372036854775808 h h' (by decide) (by decide)]
  have e2 : 18446744073709551615 - (9223372036854775808 : Int).toNat = 2 ^ 63 - 1 := by decide
  rw [e2, Nat.and_two_pow_sub_one_eq_mod]
  omega
theorem or_join {x y : Int} (i : Nat) (hi : i ≤ 64) (hx0 : 0 ≤ x) (hx : x % 2 ^ i = 0) (hx1 : x < 18446744073709551616) (hy0 : 0 ≤ y) (hy : y < 2 ^ i) : bits .or .u64 x y = x + y := by
  have hp : (2 : Int) ^ i ≤ 2 ^ 64 := by
    have := Nat.pow_le_pow_right (show 0 < 2 by decide) hi
    exact_mod_cast this
  have hp' : y < 18446744073709551616 := by
    have : (2 : Int) ^ 64 = 18446744073709551616 := by decide
    omega
  rw [u64_or x y hx0 hx1 hy0 hp']
  have a1 : x.toNat % 2 ^ i = 0 := by
    have : ((x.toNat : Nat) : Int) % ((2 ^ i : Nat) : Int) = 0 := by
      rw [Int.toNat_of_nonneg hx0]; simpa using hx
    exact_mod_cast this
  have a2 : y.toNat < 2 ^ i := by
    have : ((y.toNat : Nat) : Int) < ((2 ^ i : Nat) : Int) := by
      rw [Int.toNat_of_nonneg hy0]; simpa using hy
    exact_mod_cast this
  rw [nat_join i _ _ a1 a2]
  omega
theorem nat_xor_ones (m : Nat) (h : m < 2 ^ 63) : m ^^^ (2 ^ 63 - 1) = 2 ^ 63 - 1 - m := by
  have e := congrArg BitVec.toNat (BitVec.xor_allOnes (x := BitVec.ofNat 63 m))
  rw [BitVec.toNat_xor, BitVec.toNat_allOnes, BitVec.toNat_not, BitVec.toNat_ofNat, Nat.mod_eq_of_lt h] at e
  exact e
theorem xor_low63 {x : Int} (h : -9223372036854775808 ≤ x) (h' : x < 0) : bits .xor .i64 x 9223372036854775807 = -9223372036854775809 - x := by
  show IntKind.i64.wrap ((BitVec.ofInt 64 x ^^^ BitVec.ofInt 64 9223372036854775807).toNat : Int) = _
  have e : (BitVec.ofInt 64 (9223372036854775807 : Int)).toNat = 2 ^ 63 - 1 := by decide
  obtain ⟨m, hm, hx⟩ : ∃ m : Nat, m < 2 ^ 63 ∧ x = (m : Int) - 9223372036854775808 := ⟨(x + 9223372036854775808).toNat, by omega, by omega⟩
  have e2 : (BitVec.ofInt 64 x).toNat = m + 2 ^ 63 := by
    rw [BitVec.toNat_ofInt]
    have : x % ((2 ^ 64 : Nat) : Int) = ((m + 2 ^ 63 : Nat) : Int) := by
      have : ((2 ^ 64 : Nat) : Int) = 18446744073709551616 := by decide
      omega
    rw [this]; rfl
  have e3 : (m + 2 ^ 63) ^^^ (2 ^ 63 - 1) = (2 ^ 63 - 1 - m) + 2 ^ 63 := by
    rw [← nat_xor_top m hm, Nat.xor_assoc, Nat.xor_comm (2 ^ 63) (2 ^ 63 - 1), ← Nat.xor_assoc, nat_xor_ones m hm, nat_xor_top _ (by omega)]
  rw [BitVec.toNat_xor, e, e2, e3, IntKind.wrap_i64]
  omega
end Go.Proofs.Ytjamobbfafjdmaa.U
