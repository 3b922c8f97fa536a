/- Whole numbers as lists of digits of 32 bits, the lowest first: plain arithmetic. -/
import Derived.Test.YtcikcinkjbbnhaaDoorD1
set_option linter.unusedSimpArgs false
set_option linter.unusedVariables false
set_option maxRecDepth 10000
set_option maxHeartbeats 4000000
namespace Go.Proofs.YtcikcinkjbbnhaaDoor.M
open Go Go.Proofs

def dv : List Int → Int
  | [] => 0
  | x :: xs => x + 4294967296 * dv xs
def D32 (l : List Int) : Prop := ∀ x ∈ l, 0 ≤ x ∧ x < 4294967296
/-- A power of the base. -/
def bp (n : Nat) : Int := 4294967296 ^ n
theorem bp_pos (n : Nat) : 1 ≤ bp n := by
  have : 0 < bp n := Int.pow_pos (by decide)
  omega
theorem bp_zero : bp 0 = 1 := rfl
theorem bp_succ (n : Nat) : bp (n + 1) = 4294967296 * bp n := by unfold bp; rw [Int.pow_succ, Int.mul_comm]
theorem bp_add (a b : Nat) : bp (a + b) = bp a * bp b := Int.pow_add _ _ _
theorem D32.nil : D32 [] := fun x hx => by cases hx
theorem D32.cons {x : Int} {l : List Int} : D32 (x :: l) ↔ (0 ≤ x ∧ x < 4294967296) ∧ D32 l := by
  unfold D32; simp
theorem D32.app {a b : List Int} : D32 (a ++ b) ↔ D32 a ∧ D32 b := by
  unfold D32
  constructor
  · intro h; exact ⟨fun x hx => h x (List.mem_append_left _ hx), fun x hx => h x (List.mem_append_right _ hx)⟩
  · rintro ⟨h, h'⟩ x hx
    rcases List.mem_append.1 hx with e | e
    · exact h x e
    · exact h' x e
theorem D32.get {l : List Int} (h : D32 l) (i : Nat) : 0 ≤ l.getD i 0 ∧ l.getD i 0 < 4294967296 := by
  by_cases hi : i < l.length
  · rw [List.getD_eq_getElem?_getD, List.getElem?_eq_getElem hi]; exact h _ (List.getElem_mem _)
  · rw [List.getD_eq_getElem?_getD, List.getElem?_eq_none (by omega)]; decide
theorem D32.set {l : List Int} (h : D32 l) (i : Nat) {v : Int} (hv : 0 ≤ v ∧ v < 4294967296) : D32 (l.set i v) := fun x hx => by
  rcases List.mem_or_eq_of_mem_set hx with e | e
  · exact h x e
  · subst e; exact hv
theorem D32.rep (n : Nat) : D32 (List.replicate n 0) := fun x hx => by
  have := List.eq_of_mem_replicate hx
  subst this; decide
theorem dv_app (a b : List Int) : dv (a ++ b) = dv a + bp a.length * dv b := by
  induction a with
  | nil => simp [dv, bp_zero]
  | cons x a ih =>
    rw [List.cons_append, dv, dv, ih, List.length_cons, bp_succ, Int.mul_add, Int.mul_assoc]
    omega
theorem dv_rep (n : Nat) : dv (List.replicate n 0) = 0 := by
  induction n with
  | zero => rfl
  | succ n ih => rw [List.replicate_succ, dv, ih]; rfl
theorem dv_nn {l : List Int} (h : D32 l) : 0 ≤ dv l ∧ dv l < bp l.length := by
  induction l with
  | nil => exact ⟨Int.le_refl _, by decide⟩
  | cons x l ih =>
    obtain ⟨h1, h2⟩ := D32.cons.1 h
    have := ih h2
    rw [dv, List.length_cons, bp_succ]
    omega
theorem dv_snoc (l : List Int) (x : Int) : dv (l ++ [x]) = dv l + bp l.length * x := by
  rw [dv_app, dv, dv]
  simp
/-- With a highest digit that isn't nothing. -/
def Top (l : List Int) : Prop := l ≠ [] ∧ l.getD (l.length - 1) 0 ≠ 0
theorem dv_top {l : List Int} (h : D32 l) (ht : Top l) : bp (l.length - 1) ≤ dv l := by
  have hl : l.length ≠ 0 := fun e => ht.1 (List.eq_nil_of_length_eq_zero e)
  have hs : l = l.dropLast ++ [l.getD (l.length - 1) 0] := by
    have := List.dropLast_concat_getLast ht.1
    rw [List.getLast_eq_getElem] at this
    rw [List.getD_eq_getElem?_getD, List.getElem?_eq_getElem (by omega)]
    exact this.symm
  have h2 := h.get (l.length - 1)
  have h3 := ht.2
  generalize l.getD (l.length - 1) 0 = t at hs h2 h3
  have h4 : D32 l.dropLast := (D32.app.1 (hs ▸ h)).1
  have h5 := dv_nn h4
  have h6 : dv l = dv l.dropLast + bp (l.length - 1) * t := by
    conv => lhs; rw [hs]
    rw [dv_snoc, List.length_dropLast]
  rw [h6]
  have : bp (l.length - 1) * 1 ≤ bp (l.length - 1) * t := Int.mul_le_mul_of_nonneg_left (by omega) (by have := bp_pos (l.length - 1); omega)
  omega
theorem dv_pos {l : List Int} (h : D32 l) (ht : Top l) : 1 ≤ dv l := Int.le_trans (bp_pos _) (dv_top h ht)
theorem bp_mono {a b : Nat} (h : a ≤ b) : bp a ≤ bp b := by
  obtain ⟨c, rfl⟩ : ∃ c, b = a + c := ⟨b - a, by omega⟩
  rw [bp_add]
  have : bp a * 1 ≤ bp a * bp c := Int.mul_le_mul_of_nonneg_left (bp_pos c) (by have := bp_pos a; omega)
  omega
/-- The number of digits tells who is greater. -/
theorem dv_len_lt {a b : List Int} (ha : D32 a) (hb : D32 b) (tb : Top b) (h : a.length < b.length) : dv a < dv b := by
  have h1 := (dv_nn ha).2
  have h2 := dv_top hb tb
  have h3 := bp_mono (show a.length ≤ b.length - 1 by omega)
  omega
theorem take_snoc' {l : List Int} {k : Nat} (hk : k < l.length) : l.take (k + 1) = l.take k ++ [l.getD k 0] := by
  rw [List.take_succ_eq_append_getElem hk, List.getD_eq_getElem?_getD, List.getElem?_eq_getElem hk]; rfl
theorem dv_take_succ {l : List Int} {k : Nat} (hk : k < l.length) : dv (l.take (k + 1)) = dv (l.take k) + bp k * l.getD k 0 := by
  rw [take_snoc' hk, dv_snoc, List.length_take, Nat.min_eq_left (by omega)]
theorem dv_take_all {l : List Int} {k : Nat} (hk : l.length ≤ k) : dv (l.take k) = dv l := by rw [List.take_of_length_le hk]
theorem dv_take_over {l : List Int} {k : Nat} (hk : l.length ≤ k) : dv (l.take (k + 1)) = dv (l.take k) := by rw [List.take_of_length_le hk, List.take_of_length_le (by omega)]
theorem dv_set {l : List Int} {i : Nat} (hi : i < l.length) (v : Int) : dv (l.set i v) = dv l + bp i * (v - l.getD i 0) := by
  induction l generalizing i with
  | nil => simp at hi
  | cons x l ih =>
    cases i with
    | zero => simp only [List.set_cons_zero, dv, bp_zero, List.getD_cons_zero]; omega
    | succ i =>
      have hi' : i < l.length := by simpa using hi
      simp only [List.set_cons_succ, dv, List.getD_cons_succ, ih hi', bp_succ, Int.mul_add, Int.mul_assoc]
      omega
/-- Equal above a digit, and less there. -/
theorem dv_cmp {a b : List Int} (ha : D32 a) (hb : D32 b) (hl : a.length = b.length) {i : Nat} (hi : i < a.length) (h : a.getD i 0 < b.getD i 0) (hup : ∀ j, i < j → j < a.length → a.getD j 0 = b.getD j 0) : dv a < dv b := by
  have hda : ∀ l : List Int, i < l.length → dv l = dv (l.take i) + bp i * l.getD i 0 + bp (i + 1) * dv (l.drop (i + 1)) := fun l hl => by
    have := dv_app (l.take (i + 1)) (l.drop (i + 1))
    rw [List.take_append_drop, List.length_take, Nat.min_eq_left (by omega), dv_take_succ hl] at this
    exact this
  have he : a.drop (i + 1) = b.drop (i + 1) := by
    refine List.ext_getElem? fun j => ?_
    rw [List.getElem?_drop, List.getElem?_drop]
    by_cases hj : i + 1 + j < a.length
    · have := hup (i + 1 + j) (by omega) hj
      rw [List.getD_eq_getElem?_getD, List.getD_eq_getElem?_getD, List.getElem?_eq_getElem hj, List.getElem?_eq_getElem (by omega)] at this
      rw [List.getElem?_eq_getElem hj, List.getElem?_eq_getElem (by omega)]
      simpa using this
    · rw [List.getElem?_eq_none (by omega), List.getElem?_eq_none (by omega)]
  rw [hda a hi, hda b (by omega), he]
  have h1 : D32 (a.take i) := fun x hx => ha x (List.mem_of_mem_take hx)
  have h2 : D32 (b.take i) := fun x hx => hb x (List.mem_of_mem_take hx)
  have h3 := dv_nn h1
  have h4 := dv_nn h2
  rw [List.length_take, Nat.min_eq_left (by omega)] at h3 h4
  have h5 : bp i * (a.getD i 0 + 1) ≤ bp i * b.getD i 0 := Int.mul_le_mul_of_nonneg_left (by omega) (by have := bp_pos i; omega)
  rw [Int.mul_add] at h5
  omega
theorem eq_of_getD {a b : List Int} (hl : a.length = b.length) (h : ∀ j, j < a.length → a.getD j 0 = b.getD j 0) : a = b := by
  refine List.ext_getElem? fun j => ?_
  by_cases hj : j < a.length
  · have := h j hj
    rw [List.getD_eq_getElem?_getD, List.getD_eq_getElem?_getD, List.getElem?_eq_getElem hj, List.getElem?_eq_getElem (by omega)] at this
    rw [List.getElem?_eq_getElem hj, List.getElem?_eq_getElem (by omega)]
    simpa using this
  · rw [List.getElem?_eq_none (by omega), List.getElem?_eq_none (by omega)]

/-! ### Shifts -/
/-- A number without its lowest s bits, digit by digit. -/
def dn (s : Nat) : List Int → List Int
  | [] => []
  | [x] => [x / 2 ^ s]
  | x :: y :: l => (x / 2 ^ s + y % 2 ^ s * 2 ^ (32 - s)) :: dn s (y :: l)
theorem dn_len (s : Nat) : ∀ l, (dn s l).length = l.length
  | [] => rfl
  | [x] => rfl
  | x :: y :: l => by simp [dn, dn_len s (y :: l)]
theorem two32 {s : Nat} (hs : s ≤ 32) : (2 : Int) ^ s * 2 ^ (32 - s) = 4294967296 := by
  rw [← Int.pow_add, show s + (32 - s) = 32 by omega]; rfl
theorem tpos (s : Nat) : (1 : Int) ≤ 2 ^ s := by
  have : (0 : Int) < 2 ^ s := Int.pow_pos (by decide)
  omega
theorem dn_val {s : Nat} (hs : s ≤ 32) : ∀ l : List Int, D32 l → 2 ^ s * dv (dn s l) = dv l - l.getD 0 0 % 2 ^ s
  | [], _ => by simp [dn, dv]
  | [x], h => by
    simp only [dn, dv, List.getD_cons_zero]
    have := Int.mul_ediv_add_emod x (2 ^ s)
    rw [Int.mul_add]
    omega
  | x :: y :: l, h => by
    have ih := dn_val hs (y :: l) (D32.cons.1 h).2
    rw [dn, dv, dv, List.getD_cons_zero]
    rw [List.getD_cons_zero] at ih
    have h1 := Int.mul_ediv_add_emod x (2 ^ s)
    have h2 := two32 hs
    have e : (2 : Int) ^ s * (x / 2 ^ s + y % 2 ^ s * 2 ^ (32 - s) + 4294967296 * dv (dn s (y :: l))) = 2 ^ s * (x / 2 ^ s) + y % 2 ^ s * (2 ^ s * 2 ^ (32 - s)) + 4294967296 * (2 ^ s * dv (dn s (y :: l))) := by
      rw [Int.mul_add, Int.mul_add]
      congr 1
      · congr 1
        rw [← Int.mul_assoc, Int.mul_comm (2 ^ s), Int.mul_assoc]
      · rw [← Int.mul_assoc, Int.mul_comm (2 ^ s) 4294967296, Int.mul_assoc]
    rw [e, ih, h2]
    omega
theorem dn_get {s : Nat} : ∀ (l : List Int) (i : Nat), i < l.length → (dn s l).getD i 0 = l.getD i 0 / 2 ^ s + l.getD (i + 1) 0 % 2 ^ s * 2 ^ (32 - s)
  | [], i, h => by simp at h
  | [x], i, h => by
    have : i = 0 := by simpa using h
    subst this
    simp [dn]
  | x :: y :: l, 0, _ => by simp [dn]
  | x :: y :: l, i + 1, h => by
    have := dn_get (s := s) (y :: l) i (by simpa using h)
    simpa [dn] using this
theorem dn_digit {s : Nat} (hs : s ≤ 32) {x y : Int} (hx : 0 ≤ x ∧ x < 4294967296) (hy : 0 ≤ y) : 0 ≤ x / 2 ^ s + y % 2 ^ s * 2 ^ (32 - s) ∧ x / 2 ^ s + y % 2 ^ s * 2 ^ (32 - s) < 4294967296 := by
  have h0 := tpos s
  have h1 := tpos (32 - s)
  have h2 := two32 hs
  have h3 : 0 ≤ x / 2 ^ s := Int.ediv_nonneg hx.1 (by omega)
  have h4 : x / 2 ^ s < 2 ^ (32 - s) := Int.ediv_lt_of_lt_mul (by omega) (by rw [Int.mul_comm, h2]; exact hx.2)
  have h5 := Int.emod_nonneg y (show (2 : Int) ^ s ≠ 0 by omega)
  have h6 := Int.emod_lt_of_pos y (show (0 : Int) < 2 ^ s by omega)
  have h7 : 0 ≤ y % 2 ^ s * 2 ^ (32 - s) := Int.mul_nonneg h5 (by omega)
  have h8 : (y % 2 ^ s + 1) * 2 ^ (32 - s) ≤ 2 ^ s * 2 ^ (32 - s) := Int.mul_le_mul_of_nonneg_right (by omega) (by omega)
  rw [h2, Int.add_mul] at h8
  omega
theorem dn_d32 {s : Nat} (hs : s ≤ 32) {l : List Int} (h : D32 l) : D32 (dn s l) := fun x hx => by
  obtain ⟨i, hi, rfl⟩ := List.getElem_of_mem hx
  have hi' : i < l.length := by rw [dn_len] at hi; exact hi
  have := dn_get (s := s) l i hi'
  rw [List.getD_eq_getElem?_getD, List.getElem?_eq_getElem hi] at this
  simp only [Option.getD_some] at this
  rw [this]
  exact dn_digit hs (h.get i) (h.get (i + 1)).1
end Go.Proofs.YtcikcinkjbbnhaaDoor.M
