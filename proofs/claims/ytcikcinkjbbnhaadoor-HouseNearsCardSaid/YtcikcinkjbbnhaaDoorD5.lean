/- Whole numbers as lists of digits of 32 bits, the lowest first: plain arithmetic. -/
import Derived.Test.YtcikcinkjbbnhaaDoorD1
import Derived.Test.YtcikcinkjbbnhaaDoorC22
import Derived.Test.YtcikcinkjbbnhaaDoorMT3
import Derived.Test.YtcikcinkjbbnhaaDoorC43
set_option linter.unusedSimpArgs false
set_option linter.unusedVariables false
set_option maxRecDepth 10000
set_option maxHeartbeats 4000000
namespace Go.Proofs.YtcikcinkjbbnhaaDoor.M
open Go Go.Proofs

def dv : List Int → Int
  | [] => 0
  | x :: xs => x + 4294967296 * dv xs
def D32 (l : List Int) : Prop := ∀ x ∈ l, 0 ≤ x ∧ x < 4294967296
/-- A power of the base. -/
def bp (n : Nat) : Int := 4294967296 ^ n
theorem bp_pos (n : Nat) : 1 ≤ bp n := by
  have : 0 < bp n := Int.pow_pos (by decide)
  omega
theorem bp_zero : bp 0 = 1 := rfl
theorem bp_succ (n : Nat) : bp (n + 1) = 4294967296 * bp n := by unfold bp; rw [Int.pow_succ, Int.mul_comm]
theorem bp_add (a b : Nat) : bp (a + b) = bp a * bp b := Int.pow_add _ _ _
theorem D32.nil : D32 [] := fun x hx => by cases hx
theorem D32.cons {x : Int} {l : List Int} : D32 (x :: l) ↔ (0 ≤ x ∧ x < 4294967296) ∧ D32 l := by
  unfold D32; simp
theorem D32.app {a b : List Int} : D32 (a ++ b) ↔ D32 a ∧ D32 b := by
  unfold D32
  constructor
  · intro h; exact ⟨fun x hx => h x (List.mem_append_left _ hx), fun x hx => h x (List.mem_append_right _ hx)⟩
  · rintro ⟨h, h'⟩ x hx
    rcases List.mem_append.1 hx with e | e
    · exact h x e
    · exact h' x e
theorem D32.get {l : List Int} (h : D32 l) (i : Nat) : 0 ≤ l.getD i 0 ∧ l.getD i 0 < 4294967296 := by
  by_cases hi : i < l.length
  · rw [List.getD_eq_getElem?_getD, List.getElem?_eq_getElem hi]; exact h _ (List.getElem_mem _)
  · rw [List.getD_eq_getElem?_getD, List.getElem?_eq_none (by omega)]; decide
theorem D32.set {l : List Int} (h : D32 l) (i : Nat) {v : Int} (hv : 0 ≤ v ∧ v < 4294967296) : D32 (l.set i v) := fun x hx => by
  rcases List.mem_or_eq_of_mem_set hx with e | e
  · exact h x e
  · subst e; exact hv
theorem D32.rep (n : Nat) : D32 (List.replicate n 0) := fun x hx => by
  have := List.eq_of_mem_replicate hx
  subst this; decide
theorem dv_app (a b : List Int) : dv (a ++ b) = dv a + bp a.length * dv b := by
  induction a with
  | nil => simp [dv, bp_zero]
  | cons x a ih =>
    rw [List.cons_append, dv, dv, ih, List.length_cons, bp_succ, Int.mul_add, Int.mul_assoc]
    omega
theorem dv_rep (n : Nat) : dv (List.replicate n 0) = 0 := by
  induction n with
  | zero => rfl
  | succ n ih => rw [List.replicate_succ, dv, ih]; rfl
theorem dv_nn {l : List Int} (h : D32 l) : 0 ≤ dv l ∧ dv l < bp l.length := by
  induction l with
  | nil => exact ⟨Int.le_refl _, by decide⟩
  | cons x l ih =>
    obtain ⟨h1, h2⟩ := D32.cons.1 h
    have := ih h2
    rw [dv, List.length_cons, bp_succ]
    omega
theorem dv_snoc (l : List Int) (x : Int) : dv (l ++ [x]) = dv l + bp l.length * x := by
  rw [dv_app, dv, dv]
  simp
/-- With a highest digit that isn't nothing. -/
def Top (l : List Int) : Prop := l ≠ [] ∧ l.getD (l.length - 1) 0 ≠ 0
theorem dv_top {l : List Int} (h : D32 l) (ht : Top l) : bp (l.length - 1) ≤ dv l := by
  have hl : l.length ≠ 0 := fun e => ht.1 (List.eq_nil_of_length_eq_zero e)
  have hs : l = l.dropLast ++ [l.getD (l.length - 1) 0] := by
    have := List.dropLast_concat_getLast ht.1
    rw [List.getLast_eq_getElem] at this
    rw [List.getD_eq_getElem?_getD, List.getElem?_eq_getElem (by omega)]
    exact this.symm
  have h2 := h.get (l.length - 1)
  have h3 := ht.2
  generalize l.getD (l.length - 1) 0 = t at hs h2 h3
  have h4 : D32 l.dropLast := (D32.app.1 (hs ▸ h)).1
  have h5 := dv_nn h4
  have h6 : dv l = dv l.dropLast + bp (l.length - 1) * t := by
    conv => lhs; rw [hs]
    rw [dv_snoc, List.length_dropLast]
  rw [h6]
  have : bp (l.length - 1) * 1 ≤ bp (l.length - 1) * t := Int.mul_le_mul_of_nonneg_left (by omega) (by have := bp_pos (l.length - 1); omega)
  omega
theorem dv_pos {l : List Int} (h : D32 l) (ht : Top l) : 1 ≤ dv l := Int.le_trans (bp_pos _) (dv_top h ht)
theorem bp_mono {a b : Nat} (h : a ≤ b) : bp a ≤ bp b := by
  obtain ⟨c, rfl⟩ : ∃ c, b = a + c := ⟨b - a, by omega⟩
  rw [bp_add]
  have : bp a * 1 ≤ bp a * bp c := Int.mul_le_mul_of_nonneg_left (bp_pos c) (by have := bp_pos a; omega)
  omega
/-- The number of digits tells who is greater. -/
theorem dv_len_lt {a b : List Int} (ha : D32 a) (hb : D32 b) (tb : Top b) (h : a.length < b.length) : dv a < dv b := by
  have h1 := (dv_nn ha).2
  have h2 := dv_top hb tb
  have h3 := bp_mono (show a.length ≤ b.length - 1 by omega)
  omega
theorem take_snoc' {l : List Int} {k : Nat} (hk : k < l.length) : l.take (k + 1) = l.take k ++ [l.getD k 0] := by
  rw [List.take_succ_eq_append_getElem hk, List.getD_eq_getElem?_getD, List.getElem?_eq_getElem hk]; rfl
theorem dv_take_succ {l : List Int} {k : Nat} (hk : k < l.length) : dv (l.take (k + 1)) = dv (l.take k) + bp k * l.getD k 0 := by
  rw [take_snoc' hk, dv_snoc, List.length_take, Nat.min_eq_left (by omega)]
theorem dv_take_all {l : List Int} {k : Nat} (hk : l.length ≤ k) : dv (l.take k) = dv l := by rw [List.take_of_length_le hk]
theorem dv_take_over {l : List Int} {k : Nat} (hk : l.length ≤ k) : dv (l.take (k + 1)) = dv (l.take k) := by rw [List.take_of_length_le hk, List.take_of_length_le (by omega)]
theorem dv_set {l : List Int} {i : Nat} (hi : i < l.length) (v : Int) : dv (l.set i v) = dv l + bp i * (v - l.getD i 0) := by
  induction l generalizing i with
  | nil => simp at hi
  | cons x l ih =>
    cases i with
    | zero => simp only [List.set_cons_zero, dv, bp_zero, List.getD_cons_zero]; omega
    | succ i =>
      have hi' : i < l.length := by simpa using hi
      simp only [List.set_cons_succ, dv, List.getD_cons_succ, ih hi', bp_succ, Int.mul_add, Int.mul_assoc]
      omega
/-- Equal above a digit, and less there. -/
theorem dv_cmp {a b : List Int} (ha : D32 a) (hb : D32 b) (hl : a.length = b.length) {i : Nat} (hi : i < a.length) (h : a.getD i 0 < b.getD i 0) (hup : ∀ j, i < j → j < a.length → a.getD j 0 = b.getD j 0) : dv a < dv b := by
  have hda : ∀ l : List Int, i < l.length → dv l = dv (l.take i) + bp i * l.getD i 0 + bp (i + 1) * dv (l.drop (i + 1)) := fun l hl => by
    have := dv_app (l.take (i + 1)) (l.drop (i + 1))
    rw [List.take_append_drop, List.length_take, Nat.min_eq_left (by omega), dv_take_succ hl] at this
    exact this
  have he : a.drop (i + 1) = b.drop (i + 1) := by
    refine List.ext_getElem? fun j => ?_
    rw [List.getElem?_drop, List.getElem?_drop]
    by_cases hj : i + 1 + j < a.length
    · have := hup (i + 1 + j) (by omega) hj
      rw [List.getD_eq_getElem?_getD, List.getD_eq_getElem?_getD, List.getElem?_eq_getElem hj, List.getElem?_eq_getElem (by omega)] at this
      rw [List.getElem?_eq_getElem hj, List.getElem?_eq_getElem (by omega)]
      simpa using this
    · rw [List.getElem?_eq_none (by omega), List.getElem?_eq_none (by omega)]
  rw [hda a hi, hda b (by omega), he]
  have h1 : D32 (a.take i) := fun x hx => ha x (List.mem_of_mem_take hx)
  have h2 : D32 (b.take i) := fun x hx => hb x (List.mem_of_mem_take hx)
  have h3 := dv_nn h1
  have h4 := dv_nn h2
  rw [List.length_take, Nat.min_eq_left (by omega)] at h3 h4
  have h5 : bp i * (a.getD i 0 + 1) ≤ bp i * b.getD i 0 := Int.mul_le_mul_of_nonneg_left (by omega) (by have := bp_pos i; omega)
  rw [Int.mul_add] at h5
  omega
theorem eq_of_getD {a b : List Int} (hl : a.length = b.length) (h : ∀ j, j < a.length → a.getD j 0 = b.getD j 0) : a = b := by
  refine List.ext_getElem? fun j => ?_
  by_cases hj : j < a.length
  · have := h j hj
    rw [List.getD_eq_getElem?_getD, List.getD_eq_getElem?_getD, List.getElem?_eq_getElem hj, List.getElem?_eq_getElem (by omega)] at this
    rw [List.getElem?_eq_getElem hj, List.getElem?_eq_getElem (by omega)]
    simpa using this
  · rw [List.getElem?_eq_none (by omega), List.getElem?_eq_none (by omega)]

/-! ### Shifts -/
/-- A number without its lowest s bits, digit by digit. -/
def dn (s : Nat) : List Int → List Int
  | [] => []
  | [x] => [x / 2 ^ s]
  | x :: y :: l => (x / 2 ^ s + y % 2 ^ s * 2 ^ (32 - s)) :: dn s (y :: l)
theorem dn_len (s : Nat) : ∀ l, (dn s l).length = l.length
  | [] => rfl
  | [x] => rfl
  | x :: y :: l => by simp [dn, dn_len s (y :: l)]
theorem two32 {s : Nat} (hs : s ≤ 32) : (2 : Int) ^ s * 2 ^ (32 - s) = 4294967296 := by
  rw [← Int.pow_add, show s + (32 - s) = 32 by omega]; rfl
theorem tpos (s : Nat) : (1 : Int) ≤ 2 ^ s := by
  have : (0 : Int) < 2 ^ s := Int.pow_pos (by decide)
  omega
theorem dn_val {s : Nat} (hs : s ≤ 32) : ∀ l : List Int, D32 l → 2 ^ s * dv (dn s l) = dv l - l.getD 0 0 % 2 ^ s
  | [], _ => by simp [dn, dv]
  | [x], h => by
    simp only [dn, dv, List.getD_cons_zero]
    have := Int.mul_ediv_add_emod x (2 ^ s)
    rw [Int.mul_add]
    omega
  | x :: y :: l, h => by
    have ih := dn_val hs (y :: l) (D32.cons.1 h).2
    rw [dn, dv, dv, List.getD_cons_zero]
    rw [List.getD_cons_zero] at ih
    have h1 := Int.mul_ediv_add_emod x (2 ^ s)
    have h2 := two32 hs
    have e : (2 : Int) ^ s * (x / 2 ^ s + y % 2 ^ s * 2 ^ (32 - s) + 4294967296 * dv (dn s (y :: l))) = 2 ^ s * (x / 2 ^ s) + y % 2 ^ s * (2 ^ s * 2 ^ (32 - s)) + 4294967296 * (2 ^ s * dv (dn s (y :: l))) := by
      rw [Int.mul_add, Int.mul_add]
      congr 1
      · congr 1
        rw [← Int.mul_assoc, Int.mul_comm (2 ^ s), Int.mul_assoc]
      · rw [← Int.mul_assoc, Int.mul_comm (2 ^ s) 4294967296, Int.mul_assoc]
    rw [e, ih, h2]
    omega
theorem dn_get {s : Nat} : ∀ (l : List Int) (i : Nat), i < l.length → (dn s l).getD i 0 = l.getD i 0 / 2 ^ s + l.getD (i + 1) 0 % 2 ^ s * 2 ^ (32 - s)
  | [], i, h => by simp at h
  | [x], i, h => by
    have : i = 0 := by simpa using h
    subst this
    simp [dn]
  | x :: y :: l, 0, _ => by simp [dn]
  | x :: y :: l, i + 1, h => by
    have := dn_get (s := s) (y :: l) i (by simpa using h)
    simpa [dn] using this
theorem dn_digit {s : Nat} (hs : s ≤ 32) {x y : Int} (hx : 0 ≤ x ∧ x < 4294967296) (hy : 0 ≤ y) : 0 ≤ x / 2 ^ s + y % 2 ^ s * 2 ^ (32 - s) ∧ x / 2 ^ s + y % 2 ^ s * 2 ^ (32 - s) < 4294967296 := by
  have h0 := tpos s
  have h1 := tpos (32 - s)
  have h2 := two32 hs
  have h3 : 0 ≤ x / 2 ^ s := Int.ediv_nonneg hx.1 (by omega)
  have h4 : x / 2 ^ s < 2 ^ (32 - s) := Int.ediv_lt_of_lt_mul (by omega) (by rw [Int.mul_comm, h2]; exact hx.2)
  have h5 := Int.emod_nonneg y (show (2 : Int) ^ s ≠ 0 by omega)
  have h6 := Int.emod_lt_of_pos y (show (0 : Int) < 2 ^ s by omega)
  have h7 : 0 ≤ y % 2 ^ s * 2 ^ (32 - s) := Int.mul_nonneg h5 (by omega)
  have h8 : (y % 2 ^ s + 1) * 2 ^ (32 - s) ≤ 2 ^ s * 2 ^ (32 - s) := Int.mul_le_mul_of_nonneg_right (by omega) (by omega)
  rw [h2, Int.add_mul] at h8
  omega
theorem dn_d32 {s : Nat} (hs : s ≤ 32) {l : List Int} (h : D32 l) : D32 (dn s l) := fun x hx => by
  obtain ⟨i, hi, rfl⟩ := List.getElem_of_mem hx
  have hi' : i < l.length := by rw [dn_len] at hi; exact hi
  have := dn_get (s := s) l i hi'
  rw [List.getD_eq_getElem?_getD, List.getElem?_eq_getElem hi] at this
  simp only [Option.getD_some] at this
  rw [this]
  exact dn_digit hs (h.get i) (h.get (i + 1)).1
end Go.Proofs.YtcikcinkjbbnhaaDoor.M

/- Exact numbers: the bits that are nothing at the end, and what is left without them. -/
set_option linter.unusedSimpArgs false
set_option linter.unusedVariables false
set_option pp.deepTerms false
set_option pp.maxSteps 1500
set_option maxRecDepth 10000
set_option maxHeartbeats 4000000
namespace Go.Proofs.YtcikcinkjbbnhaaDoor.M
open Go Go.Proofs

theorem wrap_u32 (n : Int) : IntKind.u32.wrap n = n % 4294967296 := by simp [IntKind.wrap, IntKind.signed, IntKind.bits]
theorem nat_low (s m k : Nat) (h : 2 ^ s * (2 * m + 1) < 2 ^ k) : (2 ^ s * (2 * m + 1)) &&& (2 ^ k - 2 ^ s * (2 * m + 1)) = 2 ^ s := by
  have hp : 0 < 2 ^ s := Nat.two_pow_pos s
  have e0 : 2 ^ s * (2 * m + 1) = 2 ^ (s + 1) * m + 2 ^ s := by rw [Nat.pow_succ, Nat.mul_add, ← Nat.mul_assoc, Nat.mul_one]
  have e1 : 2 ^ s * (2 * m + 1) - 1 = 2 ^ (s + 1) * m + (2 ^ s - 1) := by omega
  have hlt : 2 ^ s < 2 ^ (s + 1) := by rw [Nat.pow_succ]; omega
  have hk : s < k := by
    rcases Nat.lt_or_ge s k with h' | h'
    · exact h'
    · have := Nat.pow_le_pow_right (show 0 < 2 by decide) h'
      have h2 : 2 ^ s * 1 ≤ 2 ^ s * (2 * m + 1) := Nat.mul_le_mul_left _ (by omega)
      omega
  refine Nat.eq_of_testBit_eq fun i => ?_
  rw [Nat.testBit_and]
  have e2 : 2 ^ k - 2 ^ s * (2 * m + 1) = 2 ^ k - ((2 ^ s * (2 * m + 1) - 1) + 1) := by
    have : 1 ≤ 2 ^ s * (2 * m + 1) := Nat.mul_pos hp (by omega)
    omega
  rw [e2, Nat.testBit_two_pow_sub_succ (by omega), e1, e0, Nat.testBit_two_pow_mul_add _ hlt, Nat.testBit_two_pow_mul_add _ (show 2 ^ s - 1 < 2 ^ (s + 1) by omega), Nat.testBit_two_pow]
  by_cases h1 : i < s + 1
  · rw [if_pos h1, if_pos h1, Nat.testBit_two_pow_sub_one]
    by_cases h2 : s = i
    · subst h2; simp [hk]
    · simp [h2]
  · rw [if_neg h1, if_neg h1]
    have : s ≠ i := by omega
    simp [this]
    intro a b
    simp [a]
theorem low_bit {x : Int} {s : Nat} {m : Int} (hs : s < 32) (hx : x = 2 ^ s * (2 * m + 1)) (hr : 0 ≤ x ∧ x < 4294967296) : bits .and .u32 x (IntKind.u32.wrap (-x)) = 2 ^ s := by
  have hm : 0 ≤ m := by
    rcases Int.lt_or_le m 0 with h | h
    · exfalso
      have h1 := tpos s
      have : (2 : Int) ^ s * (2 * m + 1) ≤ 2 ^ s * (-1) := Int.mul_le_mul_of_nonneg_left (by omega) (by omega)
      omega
    · exact h
  obtain ⟨m, rfl⟩ := Int.eq_ofNat_of_zero_le hm
  obtain ⟨X, hX⟩ : ∃ X : Nat, 2 ^ s * (2 * m + 1) = X := ⟨_, rfl⟩
  have hxX : x = (X : Int) := by rw [hx, ← hX]; norm_cast
  subst hxX
  have hX32 : X < 2 ^ 32 := by omega
  have hX1 : 1 ≤ X := by rw [← hX]; exact Nat.mul_pos (Nat.two_pow_pos s) (by omega)
  have hw : IntKind.u32.wrap (-(X : Int)) = ((2 ^ 32 - X : Nat) : Int) := by
    rw [wrap_u32]
    omega
  rw [hw]
  unfold bits
  dsimp only
  rw [BitVec.toNat_and]
  have b1 : ∀ Y : Nat, Y < 2 ^ 32 → (BitVec.ofInt IntKind.u32.bits (Y : Int)).toNat = Y := fun Y hY => by
    have : IntKind.u32.bits = 32 := rfl
    rw [this, BitVec.toNat_ofInt]
    omega
  have hnl := nat_low s m 32 (by rw [hX]; exact hX32)
  rw [hX] at hnl
  rw [b1 X hX32, b1 _ (by omega), hnl]
  rw [wrap_u32]
  have h2 := two32 (s := s) (by omega)
  have h3 : (2 : Int) ^ 1 ≤ 2 ^ (32 - s) := by
    exact_mod_cast Nat.pow_le_pow_right (show 0 < 2 by decide) (show 1 ≤ 32 - s by omega)
  have h4 := tpos s
  have h5 : (2 : Int) ^ s * 2 ^ 1 ≤ 2 ^ s * 2 ^ (32 - s) := Int.mul_le_mul_of_nonneg_left h3 (by omega)
  rw [h2] at h5
  have h6 : (((2 ^ s : Nat)) : Int) = 2 ^ s := Int.natCast_pow 2 s
  rw [h6]
  exact Int.emod_eq_of_lt (by omega) (by omega)
end Go.Proofs.YtcikcinkjbbnhaaDoor.M

/- Exact numbers: trailing zeros, a shift downwards, trim. -/
set_option linter.unusedSimpArgs false
set_option linter.unusedVariables false
set_option pp.deepTerms false
set_option pp.maxSteps 1500
set_option maxRecDepth 10000
set_option maxHeartbeats 4000000
namespace Go.Proofs.YtcikcinkjbbnhaaDoor.M
open Go Go.Proofs

abbrev w32 (n : Int) : MV := .lit (.int .u32 n)
def tzIs : Option Value → Nat → Bool
  | some (.int .u8 n), s => decide (n = (s : Int))
  | _, _ => false
theorem tzIs_of {o : Option Value} {s : Nat} (h : tzIs o s = true) : o = some (.int .u8 (s : Int)) := by
  match o, h with
  | some (.int .u8 n), h =>
    have : n = (s : Int) := by simpa [tzIs] using h
    rw [this]
def tzOk (s : Nat) : Bool := decide (0 ≤ shrV .u32 (IntKind.u32.wrap (2 ^ s * 125613361)) 27) && decide (shrV .u32 (IntKind.u32.wrap (2 ^ s * 125613361)) 27 < 32) && tzIs (tabT 0 (shrV .u32 (IntKind.u32.wrap (2 ^ s * 125613361)) 27).toNat) s
theorem tz_all : (List.range 32).all tzOk = true := by kernel_rfl
theorem tz_tab {s : Nat} (hs : s < 32) : 0 ≤ shrV .u32 (IntKind.u32.wrap (2 ^ s * 125613361)) 27 ∧ shrV .u32 (IntKind.u32.wrap (2 ^ s * 125613361)) 27 < 32 ∧ tabT 0 (shrV .u32 (IntKind.u32.wrap (2 ^ s * 125613361)) 27).toNat = some (.int .u8 (s : Int)) := by
  have h := List.all_eq_true.1 tz_all s (List.mem_range.2 hs)
  simp only [tzOk, Bool.and_eq_true, decide_eq_true_eq] at h
  exact ⟨h.1.1, h.1.2, tzIs_of h.2⟩
theorem tz_spec {x : Int} {s : Nat} {m : Int} (hs : s < 32) (hx : x = 2 ^ s * (2 * m + 1)) (hr : 0 ≤ x ∧ x < 4294967296) (H : MH) : Spec Tryd.prog 85 [w32 x] H fun v H' => v = i64 (s : Int) ∧ H' = H := by
  have hl := low_bit hs hx hr
  obtain ⟨t1, t2, t3⟩ := tz_tab hs
  have hx0 : ¬ x = 0 := by
    intro e
    have h1 := tpos s
    rw [hx] at e
    rcases Int.mul_eq_zero.1 e with h | h <;> omega
  have hw : IntKind.i64.wrap (s : Int) = (s : Int) := wrap_i64 (by omega)
  have hl2 : bits .and .u32 x (IntKind.u32.wrap (0 - x)) = 2 ^ s := by rw [Int.zero_sub]; exact hl
  have z32 : ((32 : Nat) : Int) = 32 := _root_.id rfl
  have f6 : ∀ m : Nat, m * 1 = m := Nat.mul_one
  clear hx
  refine Spec.scalar (enterS Tryd.func85 [.tmp 2] ?_)
  repeat' first | (with_reducible (show W _ _ _ _ _); with_reducible refine go2 ?_) | (with_reducible (show W _ _ _ _ _); with_reducible refine sg2 ?_ ?_ <;> intro _) | (with_reducible (show W _ _ _ _ _); with_reducible refine sc2 ?_ ?_ <;> intro _)
  all_goals trivial
end Go.Proofs.YtcikcinkjbbnhaaDoor.M

/- Exact numbers: a shift downwards; trim. -/
set_option linter.unusedSimpArgs false
set_option linter.unusedVariables false
set_option pp.deepTerms false
set_option pp.maxSteps 1500
set_option maxRecDepth 10000
set_option maxHeartbeats 4000000
namespace Go.Proofs.YtcikcinkjbbnhaaDoor.M
open Go Go.Proofs

/-- The digits behind a slice. -/
def Dg (C : MH) (v : MV) (ms : List Int) : Prop := ∃ p o c ob, v = .slice p o ms.length c 1 ∧ hget C p = some ob ∧ ms.length ≤ c ∧ ∀ i, i < ms.length → ob.cells[o + i]? = some (w32 (ms.getD i 0))
theorem Dg.old {H C : MH} {v : MV} {ms : List Int} (h : Dg H v ms) (hC : Old H C) : Dg C v ms := by
  obtain ⟨p, o, c, ob, h1, h2, h3, h4⟩ := h
  refine ⟨p, o, c, ob, h1, ?_, h3, h4⟩
  have := lt_of_hget h2
  unfold hget at h2 ⊢
  rw [hC.2 p this]; exact h2
theorem Old.trans {A B C : MH} (h : Old A B) (h' : Old B C) : Old A C := ⟨Nat.le_trans h.1 h'.1, fun q hq => (h'.2 q (Nat.lt_of_lt_of_le hq h.1)).trans (h.2 q hq)⟩
theorem Old.getO {H C : MH} (h : Old H C) {p : Nat} {o : MO} (hp : hget H p = some o) : hget C p = some o := by
  have := lt_of_hget hp
  unfold hget at hp ⊢
  rw [h.2 p this]; exact hp
theorem pow_min {s k : Nat} (h : s ≤ k) : (2 : Int) ^ (min ((s : Int).toNat) k) = 2 ^ s := by rw [Int.toNat_natCast, Nat.min_eq_left h]
theorem dshr32 {x : Int} (hx : 0 ≤ x) {s : Nat} (hs : s ≤ 32) : shrV .u32 x (s : Int) = x / 2 ^ s := by
  unfold shrV
  rw [pow_min (show s ≤ IntKind.u32.bits from hs), Int.fdiv_eq_ediv_of_nonneg _ (by have := tpos s; omega)]
theorem dshl32 {y : Int} (hy : 0 ≤ y) {s : Nat} (hs : s ≤ 32) : shlV .u32 y ((32 - s : Nat) : Int) = y % 2 ^ s * 2 ^ (32 - s) := by
  unfold shlV
  rw [pow_min (show 32 - s ≤ IntKind.u32.bits from Nat.sub_le _ _), wrap_u32]
  have h := two32 hs
  have h1 := tpos (32 - s)
  rw [← h, Int.mul_comm y, Int.mul_comm (2 ^ s), Int.mul_emod_mul_of_pos _ _ (by omega), Int.mul_comm]
theorem or32 {a b : Int} {k : Nat} (ha : 0 ≤ a ∧ a < 2 ^ k) (hk : k ≤ 32) (hb : 0 ≤ b) (hlt : a + b * 2 ^ k < 4294967296) : bits .or .u32 a (b * 2 ^ k) = a + b * 2 ^ k := by
  obtain ⟨a, rfl⟩ := Int.eq_ofNat_of_zero_le ha.1
  obtain ⟨b, rfl⟩ := Int.eq_ofNat_of_zero_le hb
  have hp : ((2 : Int) ^ k) = ((2 ^ k : Nat) : Int) := (Int.natCast_pow 2 k).symm
  rw [hp] at ha hlt ⊢
  have e : ((b : Int) * ((2 ^ k : Nat) : Int)) = ((2 ^ k * b : Nat) : Int) := by rw [Nat.mul_comm]; exact (Int.natCast_mul _ _).symm
  rw [e] at hlt ⊢
  have b1 : ∀ Y : Nat, Y < 4294967296 → (BitVec.ofInt IntKind.u32.bits (Y : Int)).toNat = Y := fun Y hY => by
    have : IntKind.u32.bits = 32 := rfl
    rw [this, BitVec.toNat_ofInt]
    omega
  unfold bits
  dsimp only
  rw [BitVec.toNat_or, b1 a (by omega), b1 _ (by omega), Nat.or_comm, ← Nat.two_pow_add_eq_or_of_lt (by omega) b, wrap_u32]
  omega
theorem dn_or {s : Nat} (hs : 0 < s ∧ s < 32) {x y : Int} (hx : 0 ≤ x ∧ x < 4294967296) (hy : 0 ≤ y) : bits .or .u32 (shrV .u32 x (s : Int)) (shlV .u32 y ((32 - s : Nat) : Int)) = x / 2 ^ s + y % 2 ^ s * 2 ^ (32 - s) := by
  have h0 := tpos s
  have h1 := tpos (32 - s)
  have h2 := two32 (s := s) (by omega)
  rw [dshr32 hx.1 (by omega), dshl32 hy (by omega)]
  refine or32 ⟨Int.ediv_nonneg hx.1 (by omega), Int.ediv_lt_of_lt_mul (by omega) (by rw [Int.mul_comm, h2]; exact hx.2)⟩ (by omega) (Int.emod_nonneg y (by omega)) ?_
  exact (dn_digit (by omega) hx hy).2
theorem dn_last {s : Nat} {l : List Int} (hl : l ≠ []) : (dn s l).getD (l.length - 1) 0 = l.getD (l.length - 1) 0 / 2 ^ s := by
  have h0 : l.length ≠ 0 := fun e => hl (List.eq_nil_of_length_eq_zero e)
  rw [dn_get _ _ (by omega), List.getD_eq_getElem?_getD (i := l.length - 1 + 1), List.getElem?_eq_none (by omega)]
  simp
/-- Without its highest digit, if that is nothing. -/
def cutT (l : List Int) : List Int := if 0 < l.length ∧ l.getD (l.length - 1) 0 = 0 then l.take (l.length - 1) else l
theorem cutT_dv (l : List Int) : dv (cutT l) = dv l := by
  unfold cutT
  split
  · rename_i h
    have := dv_take_succ (l := l) (k := l.length - 1) (by omega)
    rw [show l.length - 1 + 1 = l.length by omega, List.take_length, h.2] at this
    omega
  · rfl
theorem D32.cutT {l : List Int} (h : D32 l) : D32 (cutT l) := by
  unfold M.cutT
  split
  · exact fun x hx => h x (List.mem_of_mem_take hx)
  · exact h
theorem down_top {s : Nat} (hs : 0 < s ∧ s < 32) {ms : List Int} (hd : D32 ms) (ht : Top ms) (hpos : 2 ^ s ≤ dv ms) : Top (cutT (dn s ms)) := by
  have h0 : ms.length ≠ 0 := fun e => ht.1 (List.eq_nil_of_length_eq_zero e)
  have hlast := dn_last (s := s) ht.1
  have hp := tpos s
  unfold cutT
  rw [dn_len, hlast]
  split
  · rename_i h
    have hm := hd.get (ms.length - 1)
    have hlt : ms.getD (ms.length - 1) 0 < 2 ^ s := by
      have := Int.lt_ediv_add_one_mul_self (ms.getD (ms.length - 1) 0) (show (0 : Int) < 2 ^ s by omega)
      rw [h.2] at this; omega
    by_cases h1 : ms.length = 1
    · exfalso
      have : ms = [ms.getD (ms.length - 1) 0] := by
        match ms, h1 with
        | [x], _ => rfl
      rw [this] at hpos
      simp only [dv] at hpos
      omega
    · have hg : ((dn s ms).take (ms.length - 1)).getD (ms.length - 1 - 1) 0 = (dn s ms).getD (ms.length - 1 - 1) 0 := by
        rw [List.getD_eq_getElem?_getD, List.getElem?_take, if_pos (by omega), List.getD_eq_getElem?_getD]
      refine ⟨fun e => ?_, ?_⟩
      · have := congrArg List.length e
        simp [dn_len] at this
        omega
      · rw [List.length_take, dn_len, Nat.min_eq_left (by omega), hg, dn_get _ _ (by omega), show ms.length - 1 - 1 + 1 = ms.length - 1 by omega, Int.emod_eq_of_lt hm.1 hlt]
        have h2 : 1 * 2 ^ (32 - s) ≤ ms.getD (ms.length - 1) 0 * 2 ^ (32 - s) := Int.mul_le_mul_of_nonneg_right (by have := ht.2; omega) (by have := tpos (32 - s); omega)
        have h3 := tpos (32 - s)
        have h4 : 0 ≤ ms.getD (ms.length - 1 - 1) 0 / 2 ^ s := Int.ediv_nonneg (hd.get _).1 (by omega)
        omega
  · rename_i h
    refine ⟨fun e => ?_, ?_⟩
    · have := congrArg List.length e
      simp [dn_len] at this
      exact h0 (by rw [this]; rfl)
    · rw [dn_len, hlast]
      exact fun e => h ⟨by omega, e⟩
theorem msV32 {n m : Nat} (h : n ≤ m) (hm : m ≤ 1000000000000) : msV (.slice 1 4 (some [.int .u32 0]) true) (i64 (n : Int)) (i64 (m : Int)) = some (List.replicate m (w32 0), n, m, 1) := by
  unfold msV
  simp
  refine ⟨by omega, ?_⟩
  rw [List.ext_getElem?_iff]
  intro i
  by_cases hi : i < m
  · simp [hi, Nat.mod_one]
  · simp [hi]
theorem down_spec {H : MH} {v : MV} {ms : List Int} (hv : Dg H v ms) (hd : D32 ms) (hl : ms.length ≤ 1000000000) {s : Nat} (hs : 0 < s ∧ s < 32) :
    Spec Tryd.prog 86 [v, i64 (s : Int)] H fun u H' => Old H H' ∧ Dg H' u (cutT (dn s ms)) := by
  obtain ⟨p, o, c, ob, rfl, hp, hc, hcell⟩ := hv
  have hpl := lt_of_hget hp
  obtain ⟨n, hn⟩ : ∃ n, ms.length = n := ⟨_, rfl⟩
  have hms := msV32 (Nat.le_refl n) (by omega)
  rw [hn]
  refine enterS Tryd.func86 [.tmp 4] ?_
  repeat' first | (with_reducible (show W _ _ _ _ _); with_reducible refine go2 ?_) | (with_reducible (show W _ _ _ _ _); with_reducible refine sg2 ?_ ?_ <;> intro _) | (with_reducible (show W _ _ (.code (.region 7 _ true) :: _) _ _); with_reducible refine W_draw [(0, []), (1, []), (2, []), (3, []), (4, []), (5, []), (6, []), (7, []), (8, []), (9, []), (10, []), (11, []), (12, []), (13, []), (14, [])] [] (by kernel_rfl) ?_)
  refine W_for (fun j ρ H' => ∃ (k : Nat) (U : List Int), k + j = n ∧ U.length = n ∧ Is (U.take k) ((dn s ms).take k) ∧ ρ 0 = .slice p o n c 1 ∧ ρ 1 = i64 (s : Int) ∧ ρ 5 = .slice H.length 0 n n 1 ∧ ρ 12 = i64 (n : Int) ∧ ρ 13 = i64 (k : Int) ∧ H' = H ++ [some ⟨U.map w32, true⟩]) n ?_ ?_
  · refine ⟨0, List.replicate n 0, by omega, by simp, rfl, ?_⟩
    simp [put, args0, List.map_replicate]
  rintro j ρ H' ⟨k, U, hk, hU, hWk, h0, h1, h5, h12, h13, rfl⟩
  have f3 : ∀ m : Nat, (0 ≤ (m : Int)) = True := fun m => eq_true (by omega)
  have f4 : ∀ m : Nat, ((m : Int) < 0) = False := fun m => eq_false (by omega)
  have f5 : ∀ m : Nat, (m : Int).toNat = m := fun m => Int.toNat_natCast m
  have f6 : ∀ m : Nat, m * 1 = m := Nat.mul_one
  have hpc : ∀ (L : MH), hget (H ++ L) p = some ob := fun L => hget_appL hp
  by_cases hlt : (k : Int) < n
  · have f7 : ob.cells[o + k]? = some (w32 (ms.getD k 0)) := hcell k (by omega)
    have e1 : IntKind.i64.wrap ((k : Int) + 1) = ((k + 1 : Nat) : Int) := by rw [wrap_i64 (by omega)]; omega
    have es : IntKind.i64.wrap (32 - (s : Int)) = ((32 - s : Nat) : Int) := by rw [wrap_i64 (by omega)]; omega
    have hkl : k < U.length := by omega
    have f9 : ∀ x : MV, ((U.map w32).set k x)[k]? = some x := fun x => by simp [hkl]
    have f10 : (k + 1 ≤ (U.map w32).length) = True := eq_true (by simp; omega)
    have f11 : ∀ x : MV, (k + 1 ≤ ((U.map w32).set k x).length) = True := fun x => eq_true (by simp; omega)
    have f12 : ∀ x y : MV, ((U.map w32).set k x).set k y = (U.map w32).set k y := fun x y => List.set_set ..
    have hdig := hd.get k
    have hstep : ∀ v : Int, v = (dn s ms).getD k 0 → Is ((U.set k v).take (k + 1)) ((dn s ms).take (k + 1)) := fun v hv => by
      have hWk : U.take k = _ := hWk
      show _ = _
      rw [take_snoc' (by rw [List.length_set]; exact hkl), take_snoc' (by rw [dn_len]; omega), ← hv, List.take_set_of_le (by omega), hWk]
      simp [List.getD_eq_getElem?_getD, hkl]
    by_cases hlt1 : ((k + 1 : Nat) : Int) < n
    · have f8 : ob.cells[o + (k + 1)]? = some (w32 (ms.getD (k + 1) 0)) := hcell _ (by omega)
      repeat' first | (with_reducible (show W _ _ _ _ _); with_reducible refine go2 ?_) | (with_reducible (show W _ _ _ _ _); with_reducible refine sg2 ?_ ?_ <;> intro _) | (with_reducible (show W _ _ _ _ _); with_reducible refine sc2 ?_ ?_ <;> intro _) | (with_reducible (show W _ _ (.code (.region 7 _ true) :: _) _ _); with_reducible refine W_draw [(0, []), (1, []), (2, []), (3, []), (4, []), (5, []), (6, []), (7, []), (8, []), (9, []), (10, []), (11, []), (12, []), (13, []), (14, [])] [] (by kernel_rfl) ?_)
      refine ⟨j - 1, by omega, k + 1, U.set k ((dn s ms).getD k 0), by omega, by rw [List.length_set]; exact hU, hstep _ rfl, rfl, ?_⟩
      rw [dn_get _ _ (by omega), ← dn_or hs (hd.get k) (hd.get (k + 1)).1]
      simp [List.map_set]
    · repeat' first | (with_reducible (show W _ _ _ _ _); with_reducible refine go2 ?_) | (with_reducible (show W _ _ _ _ _); with_reducible refine sg2 ?_ ?_ <;> intro _) | (with_reducible (show W _ _ _ _ _); with_reducible refine sc2 ?_ ?_ <;> intro _) | (with_reducible (show W _ _ (.code (.region 7 _ true) :: _) _ _); with_reducible refine W_draw [(0, []), (1, []), (2, []), (3, []), (4, []), (5, []), (6, []), (7, []), (8, []), (9, []), (10, []), (11, []), (12, []), (13, []), (14, [])] [] (by kernel_rfl) ?_)
      refine ⟨j - 1, by omega, k + 1, U.set k ((dn s ms).getD k 0), by omega, by rw [List.length_set]; exact hU, hstep _ rfl, rfl, ?_⟩
      rw [show k = ms.length - 1 by omega, dn_last (fun e => by subst e; simp at hn; omega), dshr32 (hd.get _).1 (by omega)]
      simp [List.map_set]
  · have hkn : k = n := by omega
    subst hkn
    have hWe : U = dn s ms := by
      have hWk : U.take k = _ := hWk
      rw [List.take_of_length_le (by omega), List.take_of_length_le (by rw [dn_len]; omega)] at hWk
      exact hWk
    subst hWe
    clear hWk
    generalize dn s ms = U at hU ⊢
    by_cases hk0 : 0 < (k : Int)
    · have f7 : (U.map w32)[k - 1]? = some (w32 (U.getD (k - 1) 0)) := by
        have : k - 1 < U.length := by omega
        simp [List.getD_eq_getElem?_getD, this]
      have e1 : IntKind.i64.wrap ((k : Int) - 1) = ((k - 1 : Nat) : Int) := by rw [wrap_i64 (by omega)]; omega
      have f8 : (((k - 1 : Nat) : Int) < (k : Int)) = True := eq_true (by omega)
      have om : ∀ f : Operand → MV, Option.map f none = none := fun _ => _root_.id rfl
      have hs3 : slice3V 1 (.slice H.length 0 k k 1) none (some (i64 ((k - 1 : Nat) : Int))) (i64 ((k - 1 : Nat) : Int)) = some (.slice H.length 0 (k - 1) (k - 1) 1) := by
        simp [slice3V]
        try omega
      have hcel : ∀ i, i < U.length → (U.map w32)[0 + i]? = some (w32 (U.getD i 0)) := fun i hi => by simp [List.getD_eq_getElem?_getD, hi]
      repeat' first | (with_reducible (show W _ _ _ _ _); with_reducible refine go2 ?_) | (with_reducible (show W _ _ _ _ _); with_reducible refine sg2 ?_ ?_ <;> intro _) | (with_reducible (show W _ _ _ _ _); with_reducible refine sc2 ?_ ?_ <;> intro _) | (with_reducible (show W _ _ (.code (.region 7 _ true) :: _) _ _); with_reducible refine W_draw [(0, []), (1, []), (2, []), (3, []), (4, []), (5, []), (6, []), (7, []), (8, []), (9, []), (10, []), (11, []), (12, []), (13, []), (14, [])] [] (by kernel_rfl) ?_)
      · rename_i h0
        refine ⟨(Old.refl H).app _, ?_⟩
        rw [cutT, if_pos ⟨by omega, by rw [hU]; exact h0⟩, hU]
        refine ⟨H.length, 0, k - 1, ⟨U.map w32, true⟩, by rw [List.length_take, Nat.min_eq_left (by omega)], hget_new', by rw [List.length_take]; omega, fun i hi => ?_⟩
        rw [List.length_take] at hi
        have hi2 : i < k - 1 := by omega
        rw [hcel i (by omega)]
        simp [List.getD_eq_getElem?_getD, List.getElem?_take, hi2]
      · rename_i h0
        refine ⟨(Old.refl H).app _, ?_⟩
        rw [cutT, if_neg (fun h => h0 (by rw [hU] at h; exact h.2))]
        exact ⟨H.length, 0, k, ⟨U.map w32, true⟩, by rw [hU], hget_new', by omega, hcel⟩
    · repeat' first | (with_reducible (show W _ _ _ _ _); with_reducible refine go2 ?_) | (with_reducible (show W _ _ _ _ _); with_reducible refine sg2 ?_ ?_ <;> intro _) | (with_reducible (show W _ _ _ _ _); with_reducible refine sc2 ?_ ?_ <;> intro _) | (with_reducible (show W _ _ (.code (.region 7 _ true) :: _) _ _); with_reducible refine W_draw [(0, []), (1, []), (2, []), (3, []), (4, []), (5, []), (6, []), (7, []), (8, []), (9, []), (10, []), (11, []), (12, []), (13, []), (14, [])] [] (by kernel_rfl) ?_)
      refine ⟨(Old.refl H).app _, ?_⟩
      rw [cutT, if_neg (fun h => by omega)]
      exact ⟨H.length, 0, k, ⟨U.map w32, true⟩, by rw [hU], hget_new', by omega, fun i hi => by omega⟩

abbrev nz : MV := .agg [bl false, .lit (.slice none 0 0), i64 0]
abbrev nv (s : Bool) (sl : MV) (e : Int) : MV := .agg [bl s, sl, i64 e]
theorem odd_part : ∀ (f : Nat) (x : Int), 0 < x → x < 2 ^ f → ∃ (s : Nat) (m : Int), s < f ∧ x = 2 ^ s * (2 * m + 1)
  | 0, x, h, h' => by simp at h'; omega
  | f + 1, x, h, h' => by
    by_cases hx : x % 2 = 1
    · exact ⟨0, x / 2, by omega, by omega⟩
    · obtain ⟨s, m, h1, h2⟩ := odd_part f (x / 2) (by omega) (by rw [Int.pow_succ] at h'; omega)
      refine ⟨s + 1, m, by omega, ?_⟩
      rw [Int.pow_succ, Int.mul_comm (2 ^ s) 2, Int.mul_assoc, ← h2]
      omega
theorem dv_drop {l : List Int} {k : Nat} (hk : k ≤ l.length) (hz : ∀ i, i < k → l.getD i 0 = 0) : dv l = bp k * dv (l.drop k) := by
  have h1 := dv_app (l.take k) (l.drop k)
  rw [List.take_append_drop, List.length_take, Nat.min_eq_left hk] at h1
  have h2 : l.take k = List.replicate k 0 := by
    refine eq_of_getD (by rw [List.length_take, List.length_replicate, Nat.min_eq_left hk]) fun j hj => ?_
    rw [List.length_take, Nat.min_eq_left hk] at hj
    rw [List.getD_eq_getElem?_getD, List.getElem?_take, if_pos hj, ← List.getD_eq_getElem?_getD, hz j hj]
    simp [List.getD_eq_getElem?_getD, hj]
  rw [h1, h2, dv_rep]
  omega
theorem bp_two (k : Nat) : bp k = 2 ^ (32 * k) := by
  unfold bp
  rw [Int.pow_mul]
  rfl
theorem trim_spec {H : MH} {v : MV} {ms : List Int} (hv : Dg H v ms) (hd : D32 ms) (hl : ms.length ≤ 1000000000) (sg : Bool) {e : Int} (he : -2000000000000000000 ≤ e ∧ e ≤ 2000000000000000000) :
    Spec Tryd.prog 62 [bl sg, v, i64 e] H fun u H' => Old H H' ∧ ((dv ms = 0 ∧ u = nz) ∨ ∃ (sl : MV) (t : Nat) (ms' : List Int), u = nv sg sl (e + t) ∧ one sl = true ∧ Dg H' sl ms' ∧ D32 ms' ∧ Top ms' ∧ dv ms' % 2 = 1 ∧ dv ms = dv ms' * 2 ^ t ∧ t ≤ 32 * ms.length) := by
  obtain ⟨p, o, c, ob, rfl, hp, hc, hcell⟩ := hv
  have hpl := lt_of_hget hp
  obtain ⟨n, hn⟩ : ∃ n, ms.length = n := ⟨_, rfl⟩
  rw [hn] at hcell hc hl ⊢
  have f3 : ∀ m : Nat, (0 ≤ (m : Int)) = True := fun m => eq_true (by omega)
  have f5 : ∀ m : Nat, (m : Int).toNat = m := fun m => Int.toNat_natCast m
  have f6 : ∀ m : Nat, m * 1 = m := Nat.mul_one
  have hpc : ∀ (L : MH), hget (H ++ L) p = some ob := fun L => hget_appL hp
  refine enterS Tryd.func62 [.cell 6 34] ?_
  repeat' first | (with_reducible (show W _ _ _ _ _); with_reducible refine go2 ?_) | (with_reducible (show W _ _ _ _ _); with_reducible refine sg2 ?_ ?_ <;> intro _)
  refine W_for (fun j ρ H' => ∃ k : Nat, k = j ∧ k ≤ n ∧ Is (dv (ms.take k)) (dv ms) ∧ ρ 0 = bl sg ∧ ρ 1 = .slice p o n c 1 ∧ ρ 2 = i64 e ∧ ρ 6 = .ptr H.length 0 ∧ ρ 7 = i64 (k : Int) ∧ H' = H ++ [some ⟨[bl false, .lit (.slice none 0 0), i64 0], true⟩]) n ?_ ?_
  · exact ⟨n, rfl, Nat.le_refl _, dv_take_all (by omega), rfl, rfl, rfl, rfl, rfl, rfl⟩
  rintro j ρ H' ⟨k, rfl, hk, hdk, h0, h1, h2, h6, h7, rfl⟩
  by_cases hk0 : 0 < (k : Int)
  · have e1 : IntKind.i64.wrap ((k : Int) - 1) = ((k - 1 : Nat) : Int) := by rw [wrap_i64 (by omega)]; omega
    have f7 : ob.cells[o + (k - 1)]? = some (w32 (ms.getD (k - 1) 0)) := hcell _ (by omega)
    have f8 : (((k - 1 : Nat) : Int) < (n : Int)) = True := eq_true (by omega)
    have f9 : ((k : Int) ≤ (n : Int)) = True := eq_true (by omega)
    have f10 : ((k : Int) = 0) = False := eq_false (by omega)
    repeat' first | (with_reducible (show W _ _ _ _ _); with_reducible refine go2 ?_) | (with_reducible (show W _ _ _ _ _); with_reducible refine sg2 ?_ ?_ <;> intro _)
    refine sc2 ?_ ?_ <;> intro hz
    · repeat' first | (with_reducible (show W _ _ _ _ _); with_reducible refine go2 ?_) | (with_reducible (show W _ _ _ _ _); with_reducible refine sg2 ?_ ?_ <;> intro _) | (with_reducible (show W _ _ _ _ _); with_reducible refine sc2 ?_ ?_ <;> intro _)
      refine ⟨k - 1, by omega, k - 1, rfl, by omega, ?_, rfl⟩
      have := dv_take_succ (l := ms) (k := k - 1) (by omega)
      rw [show k - 1 + 1 = k by omega, hz] at this
      exact (by rw [this]; omega : dv (ms.take (k - 1)) = dv (ms.take k)).trans hdk
    · have om : ∀ f : Operand → MV, Option.map f none = none := fun _ => _root_.id rfl
      have hz : ¬ ms.getD (k - 1) 0 = 0 := by simpa using hz
      repeat' first | (with_reducible (show W _ _ _ _ _); with_reducible refine go2 ?_) | (with_reducible (show W _ _ _ _ _); with_reducible refine sg2 ?_ ?_ <;> intro _)
      refine W_for (fun j ρ H' => ∃ i : Nat, i + j = k - 1 ∧ Hid2 (∀ a, a < i → ms.getD a 0 = 0) ∧ ρ 0 = bl sg ∧ ρ 1 = .slice p o k c 1 ∧ ρ 2 = i64 e ∧ ρ 6 = .ptr H.length 0 ∧ ρ 8 = i64 (i : Int) ∧ H' = H ++ [some ⟨[bl false, .lit (.slice none 0 0), i64 0], true⟩]) (k - 1) ?_ ?_
      · exact ⟨0, by omega, fun a ha => by omega, h0, rfl, h2, h6, rfl, rfl⟩
      clear h0 h1 h2 h6 h7 f7 f8 f9 f10 e1
      rintro j ρ H' ⟨i, hi, hzs, h0, h1, h2, h6, h8, rfl⟩
      have f7 : ob.cells[o + i]? = some (w32 (ms.getD i 0)) := hcell _ (by omega)
      have f8 : ((i : Int) < (k : Int)) = True := eq_true (by omega)
      have f9 : ((i : Int) ≤ (k : Int)) = True := eq_true (by omega)
      have e1 : IntKind.i64.wrap ((i : Int) + 1) = ((i + 1 : Nat) : Int) := by rw [wrap_i64 (by omega)]; omega
      repeat' first | (with_reducible (show W _ _ _ _ _); with_reducible refine go2 ?_) | (with_reducible (show W _ _ _ _ _); with_reducible refine sg2 ?_ ?_ <;> intro _)
      refine sc2 ?_ ?_ <;> intro hzi
      · by_cases hik : i = k - 1
        · subst hik; exact absurd hzi hz
        · repeat' first | (with_reducible (show W _ _ _ _ _); with_reducible refine go2 ?_) | (with_reducible (show W _ _ _ _ _); with_reducible refine sg2 ?_ ?_ <;> intro _) | (with_reducible (show W _ _ _ _ _); with_reducible refine sc2 ?_ ?_ <;> intro _)
          refine ⟨j - 1, by omega, i + 1, by omega, fun a ha => ?_, rfl⟩
          by_cases e : a = i
          · subst e; exact hzi
          · exact hzs a (by omega)
      · have f10 : (c = i) = False := eq_false (by omega)
        have e2 : IntKind.i64.wrap (32 * (i : Int)) = ((32 * i : Nat) : Int) := by rw [wrap_i64 (by omega)]; omega
        have e3 : IntKind.i64.wrap (e + ((32 * i : Nat) : Int)) = e + ((32 * i : Nat) : Int) := wrap_i64 (by omega)
        have hdi := hd.get i
        obtain ⟨s, m, hs, hm⟩ := odd_part 32 (ms.getD i 0) (by omega) hdi.2
        have htz := fun H => tz_spec hs hm hdi H
        replace hm : Hid2 (ms.getD i 0 = 2 ^ s * (2 * m + 1)) := hm
        have f11 : ((0 : Int) < ((k - i : Nat) : Int)) = True := eq_true (by omega)
        have f12 : ((0 : Nat) < (k - i : Nat)) = True := eq_true (by omega)
        repeat' first | (with_reducible (show W _ _ _ _ _); with_reducible refine go2 ?_) | (with_reducible (show W _ _ _ _ _); with_reducible refine sg2 ?_ ?_ <;> intro _) | (with_reducible (show CallK _ _ _ _ _ _ _ _ _ _ _); with_reducible refine ce2 (htz _) ?_)
        obtain ⟨ms2, hms2⟩ : ∃ ms2, (ms.take k).drop i = ms2 := ⟨_, rfl⟩
        have hl2 : ms2.length = k - i := by rw [← hms2, List.length_drop, List.length_take, Nat.min_eq_left (by omega)]
        have hg2 : ∀ a, a < k - i → ms2.getD a 0 = ms.getD (i + a) 0 := fun a ha => by
          rw [← hms2, List.getD_eq_getElem?_getD, List.getElem?_drop, List.getElem?_take, if_pos (by omega), ← List.getD_eq_getElem?_getD]
        have hD2 : D32 ms2 := fun x hx => hd x (List.mem_of_mem_take (List.mem_of_mem_drop (hms2 ▸ hx)))
        have hT2 : Top ms2 := ⟨fun e => by rw [e] at hl2; simp at hl2; omega, by rw [hl2, hg2 _ (by omega), show i + (k - i - 1) = k - 1 by omega]; exact hz⟩
        have hv2 : Hid2 (dv ms = bp i * dv ms2) := by
          show _ = _
          rw [← hms2, ← dv_drop (by rw [List.length_take]; omega) (fun a ha => by rw [List.getD_eq_getElem?_getD, List.getElem?_take, if_pos (by omega), ← List.getD_eq_getElem?_getD]; exact hzs a ha)]
          exact hdk.symm
        have hh2 : ms2.getD 0 0 = 2 ^ s * (2 * m + 1) := by rw [hg2 0 (by omega)]; exact hm
        have hDg : ∀ L : MH, Dg (H ++ L) (.slice p (o + i) (k - i) (c - i) 1) ms2 := fun L => ⟨p, o + i, c - i, ob, by rw [hl2], hpc L, by omega, fun a ha => by rw [hg2 a (by omega), ← hcell (i + a) (by omega), Nat.add_assoc]⟩
        have hpos2 := dv_pos hD2 hT2
        have hsv := dn_val (s := s) (by omega) ms2 hD2
        have hrem : ms2.getD 0 0 % 2 ^ s = 0 := by rw [hh2]; exact Int.mul_emod_right _ _
        rw [hrem, Int.sub_zero] at hsv
        have hodd : dv (dn s ms2) % 2 = 1 := by
          match ms2, hT2, hh2, hsv with
          | x :: r, _, hh2, hsv =>
            rw [List.getD_cons_zero] at hh2
            replace hsv : 2 ^ s * dv (dn s (x :: r)) = 2 ^ s * (2 * m + 1) + 4294967296 * dv r := by rw [hsv, dv, hh2]
            have h32 := two32 (s := s) (by omega)
            have hp1 : (2 : Int) ^ (32 - s) = 2 * 2 ^ (31 - s) := by rw [show 32 - s = 31 - s + 1 by omega, Int.pow_succ, Int.mul_comm]
            rw [hp1] at h32
            have : 2 ^ s * dv (dn s (x :: r)) = 2 ^ s * (2 * m + 1 + 2 * (2 ^ (31 - s) * dv r)) := by
              rw [hsv, ← h32, Int.mul_add (2 ^ s) (2 * m + 1), Int.mul_assoc (2 ^ s) (2 * 2 ^ (31 - s)), Int.mul_assoc 2]
            have := Int.eq_of_mul_eq_mul_left (by have := tpos s; omega) this
            omega
        by_cases hs0 : 0 < (s : Int)
        · have e4 : IntKind.i64.wrap (e + ((32 * i : Nat) : Int) + (s : Int)) = e + ((32 * i : Nat) : Int) + (s : Int) := wrap_i64 (by omega)
          have hdown := fun L => down_spec (hDg L) hD2 (by omega) (s := s) ⟨by omega, hs⟩
          repeat' first | (with_reducible (show W _ _ _ _ _); with_reducible refine go2 ?_) | (with_reducible (show W _ _ _ _ _); with_reducible refine sg2 ?_ ?_ <;> intro _)
          (with_reducible (show CallK _ _ _ _ _ _ _ _ _ _ _)); with_reducible refine cx2 (hdown _) ?_
          have hpos : 1 ≤ dv (dn s ms2) := by have := (dv_nn (dn_d32 (s := s) (by omega) hD2)).1; omega
          have hge : 2 ^ s ≤ dv ms2 := by
            rw [← hsv]
            have : (2 : Int) ^ s * 1 ≤ 2 ^ s * dv (dn s ms2) := Int.mul_le_mul_of_nonneg_left hpos (by have := tpos s; omega)
            omega
          have hTo := down_top (s := s) ⟨by omega, hs⟩ hD2 hT2 hge
          have hDo := D32.cutT (dn_d32 (s := s) (by omega) hD2)
          have hvo := cutT_dv (dn s ms2)
          rintro u' H' ⟨hO, hDg'⟩
          obtain ⟨r, hr⟩ : ∃ r, cutT (dn s ms2) = r := ⟨_, rfl⟩
          rw [hr] at hDg' hTo hDo hvo
          have hDg2 := hDg'
          obtain ⟨p', o', c', ob', rfl, hp', hc', hcl'⟩ := hDg'
          have hb0 := hO.getO hget_new'
          have hHl := lt_of_hget hb0
          have hOld : Old H (H'.set H.length (some ⟨[bl sg, .slice p' o' r.length c' 1, i64 (e + ((32 * i : Nat) : Int) + (s : Int))], true⟩)) := (((Old.refl H).app _).trans hO).setq _ (Nat.le_refl _)
          have hfin : dv ms = dv r * 2 ^ (32 * i + s) := by
            rw [show dv ms = _ from hv2, ← hsv, hvo, bp_two, Int.pow_add, ← Int.mul_assoc, Int.mul_comm]
          have hDg3 : Dg (H'.set H.length (some ⟨[bl sg, .slice p' o' r.length c' 1, i64 (e + ((32 * i : Nat) : Int) + (s : Int))], true⟩)) (.slice p' o' r.length c' 1) r := by
            by_cases hpe : p' = H.length
            · exfalso
              subst hpe
              rw [hb0] at hp'
              cases hp'
              have h1 := hcl' 0 (by have := hTo.1; cases r with | nil => exact absurd rfl this | cons => simp)
              have hlr : o' + 0 < 3 := by
                rcases Nat.lt_or_ge (o' + 0) 3 with h | h
                · exact h
                · rw [List.getElem?_eq_none (by simpa using h)] at h1; cases h1
              match o', hlr, h1 with
              | 0, _, h1 => simp at h1
              | 1, _, h1 => simp at h1
              | 2, _, h1 => simp at h1
            · exact ⟨p', o', c', ob', rfl, (hget_set_ne (Ne.symm hpe) _).trans hp', hc', hcl'⟩
          replace hfin : Hid2 (dv ms = dv r * 2 ^ (32 * i + s)) := hfin
          clear hsv hvo
          repeat' first | (with_reducible (show W _ _ _ _ _); with_reducible refine go2 ?_) | (with_reducible (show W _ _ _ _ _); with_reducible refine sg2 ?_ ?_ <;> intro _) | (with_reducible (show W _ _ _ _ _); with_reducible refine sc2 ?_ ?_ <;> intro _)
          exact .inr ⟨_, 32 * i + s, r, by simp [Int.add_assoc], rfl, hDg3, hDo, hTo, by rw [← hr, cutT_dv]; exact hodd, hfin, by omega⟩
        · have hs00 : s = 0 := by omega
          subst hs00
          have hfin : Hid2 (dv ms = dv ms2 * 2 ^ (32 * i)) := by show _ = _; rw [show dv ms = _ from hv2, bp_two, Int.mul_comm]
          replace hsv : Hid2 (2 ^ 0 * dv (dn 0 ms2) = dv ms2) := hsv
          clear hv2
          repeat' first | (with_reducible (show W _ _ _ _ _); with_reducible refine go2 ?_) | (with_reducible (show W _ _ _ _ _); with_reducible refine sg2 ?_ ?_ <;> intro _) | (with_reducible (show W _ _ _ _ _); with_reducible refine sc2 ?_ ?_ <;> intro _)
          refine ⟨(Old.refl H).app _, .inr ⟨_, 32 * i, ms2, rfl, rfl, hDg _, hD2, hT2, ?_, hfin, by omega⟩⟩
          have hsv : 2 ^ 0 * dv (dn 0 ms2) = dv ms2 := hsv
          rw [← hsv]
          simpa using hodd
  · have om : ∀ f : Operand → MV, Option.map f none = none := fun _ => _root_.id rfl
    have hk00 : k = 0 := by omega
    subst hk00
    have f9 : (((0 : Nat) : Int) ≤ (n : Int)) = True := eq_true (by omega)
    have f10 : (((0 : Nat) : Int) = 0) = True := eq_true (by omega)
    have hz0 : dv ms = 0 := hdk.symm
    clear hdk
    repeat' first | (with_reducible (show W _ _ _ _ _); with_reducible refine go2 ?_) | (with_reducible (show W _ _ _ _ _); with_reducible refine sg2 ?_ ?_ <;> intro _) | (with_reducible (show W _ _ _ _ _); with_reducible refine sc2 ?_ ?_ <;> intro _)
    exact ⟨(Old.refl H).app _, .inl trivial⟩
end Go.Proofs.YtcikcinkjbbnhaaDoor.M
