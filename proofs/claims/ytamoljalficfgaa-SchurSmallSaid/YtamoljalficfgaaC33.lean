/- How long a number is; quotients. -/
import Derived.Test.YtamoljalficfgaaC32
set_option linter.unusedSimpArgs false
set_option linter.unusedVariables false
set_option maxRecDepth 10000
set_option maxHeartbeats 8000000
namespace Go.Proofs.Ytamoljalficfgaa.M
open Go Go.Proofs

/-- What is new is forgotten, and of the answer its kind is told. -/
theorem Spec.scalarE {P : Program} {f : FuncId} {args : List MV} {H : MH} {T : Type} {G : T → Prop} {r : T → MV} (h : Spec P f args H fun v H' => (∃ junk, H' = H ++ junk) ∧ Cl 0 [] v ∧ ∃ t, G t ∧ v = r t) : Spec P f args H fun v H' => ∃ t, G t ∧ v = r t ∧ H' = H := by
  refine Spec.gc h ?_
  rintro v H1 ⟨⟨junk, rfl⟩, hcl, t, hG, rfl⟩
  refine ⟨H, junk, [], rfl, rfl, List.nodup_nil, by simp, fun p o ho => .inl ho, by simp, cl_mono (Nat.zero_le _) _ hcl, ⟨t, hG, ?_, by simp⟩⟩
  exact ren_free _ hcl

theorem shrK {x k : Int} (hk : 0 ≤ k ∧ k ≤ 64) : shrV .u64 x k = x / 2 ^ k.toNat := by
  unfold shrV
  have : min k.toNat IntKind.u64.bits = k.toNat := by simp [IntKind.bits]; omega
  rw [this, Int.fdiv_eq_ediv_of_nonneg _ (Int.pow_nonneg (by omega))]
theorem shlK {x k : Int} (hk : 0 ≤ k ∧ k ≤ 64) : shlV .u64 x k = x * 2 ^ k.toNat % 18446744073709551616 := by
  unfold shlV
  have : min k.toNat IntKind.u64.bits = k.toNat := by simp [IntKind.bits]; omega
  rw [this, wrap_u64]
def Ln (x : Int) (L : Nat) : Prop := x < 2 ^ L ∧ (0 < x → (2 : Int) ^ L ≤ 2 * x)
theorem Ln.up {x : Int} {s L : Nat} (hx : (2 : Int) ^ s ≤ x) (h : Ln (x / 2 ^ s) L) : Ln x (s + L) := by
  have hs : (0 : Int) < 2 ^ s := Int.pow_pos (by omega)
  have hy : 0 < x / 2 ^ s := by
    have : 1 ≤ x / 2 ^ s := (Int.le_ediv_iff_mul_le hs).2 (by omega)
    omega
  refine ⟨?_, fun _ => ?_⟩
  · have := (Int.ediv_lt_iff_lt_mul hs).1 h.1
    rw [Int.pow_add, Int.mul_comm]; exact this
  · have h2 := h.2 hy
    rw [Int.pow_add]
    have h3 : 2 ^ s * (2 : Int) ^ L ≤ 2 ^ s * (2 * (x / 2 ^ s)) := Int.mul_le_mul_of_nonneg_left h2 (Int.le_of_lt hs)
    have h4 : 2 ^ s * (x / 2 ^ s) ≤ x := Int.mul_ediv_self_le (by omega)
    have h5 : (2 : Int) ^ s * (2 * (x / 2 ^ s)) = 2 * (2 ^ s * (x / 2 ^ s)) := by rw [Int.mul_left_comm]
    omega
theorem tab_ln : ∀ y : Nat, y < 256 → y < 2 ^ (LEN8.getD y 0) ∧ (0 < y → 2 ^ (LEN8.getD y 0) ≤ 2 * y) ∧ LEN8.getD y 0 ≤ 8 := by decide +kernel
theorem len1_ln {n x : Int} (hx : 0 ≤ x ∧ x < 256) (hn : 0 ≤ n ∧ n ≤ 100) : ∃ L : Nat, len1 n x = n + L ∧ L ≤ 8 ∧ Ln x L := by
  obtain ⟨y, rfl⟩ := Int.eq_ofNat_of_zero_le hx.1
  obtain ⟨h1, h2, h3⟩ := tab_ln y (by omega)
  have hw : IntKind.u8.wrap (y : Int) = y := by simp [IntKind.wrap, IntKind.signed, IntKind.bits]; omega
  refine ⟨LEN8.getD y 0, ?_, h3, ?_, fun hy => ?_⟩
  · unfold len1 tabM
    rw [hw, Int.toNat_natCast, wrap_i64 (n := ((LEN8.getD y 0 : Nat) : Int)) (by omega), wrap_i64 (by omega)]
  · exact_mod_cast h1
  · have := h2 (by omega)
    exact_mod_cast this
theorem len8_ln {n x : Int} (hx : 0 ≤ x ∧ x < 65536) (hn : 0 ≤ n ∧ n ≤ 90) : ∃ L : Nat, len8 n x = n + L ∧ L ≤ 16 ∧ Ln x L := by
  unfold len8
  split
  · rename_i h
    rw [shrK (by omega), wrap_i64 (by omega)]
    obtain ⟨L, h1, h2, h3⟩ := len1_ln (n := n + 8) (x := x / 2 ^ (8 : Int).toNat) (by constructor <;> (simp; omega)) (by omega)
    exact ⟨8 + L, by rw [h1]; omega, by omega, Ln.up (s := 8) (by simpa using h) h3⟩
  · obtain ⟨L, h1, h2, h3⟩ := len1_ln (n := n) (x := x) (by omega) (by omega)
    exact ⟨L, h1, by omega, h3⟩
theorem len16_ln {n x : Int} (hx : 0 ≤ x ∧ x < 4294967296) (hn : 0 ≤ n ∧ n ≤ 70) : ∃ L : Nat, len16 n x = n + L ∧ L ≤ 32 ∧ Ln x L := by
  unfold len16
  split
  · rename_i h
    rw [shrK (by omega), wrap_i64 (by omega)]
    obtain ⟨L, h1, h2, h3⟩ := len8_ln (n := n + 16) (x := x / 2 ^ (16 : Int).toNat) (by constructor <;> (simp; omega)) (by omega)
    exact ⟨16 + L, by rw [h1]; omega, by omega, Ln.up (s := 16) (by simpa using h) h3⟩
  · obtain ⟨L, h1, h2, h3⟩ := len8_ln (n := n) (x := x) (by omega) (by omega)
    exact ⟨L, h1, by omega, h3⟩
theorem lenM_ln {x : Int} (hx : InU x) : ∃ L : Nat, lenM x = L ∧ L ≤ 64 ∧ Ln x L := by
  have hx1 := hx.1
  have hx2 := hx.2
  unfold lenM
  split
  · rename_i h
    rw [shrK (by omega)]
    obtain ⟨L, h1, h2, h3⟩ := len16_ln (n := 32) (x := x / 2 ^ (32 : Int).toNat) (by constructor <;> (simp; omega)) (by omega)
    exact ⟨32 + L, by rw [h1]; omega, by omega, Ln.up (s := 32) (by simpa using h) h3⟩
  · obtain ⟨L, h1, h2, h3⟩ := len16_ln (n := 0) (x := x) (by omega) (by omega)
    exact ⟨L, by rw [h1]; omega, by omega, h3⟩
theorem lz_spec {x : Int} (hx : InU x) (H : MH) : Spec Try.prog 99 [u64 x] H fun v H' => v = i64 (IntKind.i64.wrap (64 - lenM x)) ∧ H' = H := by
  refine Spec.scalar (enterS Try.func99 [.tmp 2] ?_)
  repeat' first | (with_reducible (show W _ _ _ _ _); with_reducible refine go2 ?_) | (with_reducible (show W _ _ _ _ _); with_reducible refine sg2 ?_ ?_ <;> intro _) | (with_reducible (show W _ _ _ _ _); with_reducible refine sc2 ?_ ?_ <;> intro _) | (with_reducible (show CallK _ _ _ _ _ _ _ _ _ _ _); with_reducible refine ce2 (len_spec hx _) ?_)
  all_goals trivial
/-- The divisor with its highest bit at the top. -/
theorem norm_in {y : Int} (hy : InU y) (h0 : 0 < y) : 2147483648 ≤ shrV .u64 (shlV .u64 y (IntKind.u64.wrap (IntKind.i64.wrap (64 - lenM y)))) 32 ∧ shrV .u64 (shlV .u64 y (IntKind.u64.wrap (IntKind.i64.wrap (64 - lenM y)))) 32 < 4294967296 := by
  obtain ⟨L, h1, h2, h3, h4⟩ := lenM_ln hy
  have h4 := h4 h0
  rw [h1, wrap_i64 (by omega), wrap_u64, Int.emod_eq_of_lt (by omega) (by omega), shrK (by omega), shlK (by omega)]
  have e : (64 - (L : Int)).toNat = 64 - L := by omega
  rw [e]
  have hp : (2 : Int) ^ L * 2 ^ (64 - L) = 18446744073709551616 := by
    rw [← Int.pow_add, show L + (64 - L) = 64 by omega]; rfl
  have hpos : (0 : Int) < 2 ^ (64 - L) := Int.pow_pos (by omega)
  have u1 : y * 2 ^ (64 - L) < 18446744073709551616 := by rw [← hp]; exact Int.mul_lt_mul_of_pos_right h3 hpos
  have u2 : 18446744073709551616 ≤ 2 * (y * 2 ^ (64 - L)) := by
    rw [← hp, ← Int.mul_assoc]; exact Int.mul_le_mul_of_nonneg_right h4 (Int.le_of_lt hpos)
  have u3 : 0 ≤ y * 2 ^ (64 - L) := by omega
  rw [Int.emod_eq_of_lt u3 u1]
  have e32 : (2 : Int) ^ (32 : Int).toNat = 4294967296 := by decide
  rw [e32]
  generalize y * 2 ^ (64 - L) = z at u1 u2 u3
  omega
end Go.Proofs.Ytamoljalficfgaa.M
