/- Lists of numbers none of which is great. -/
import Derived.Test.YtcikcinkjbbnhaaDoorY10
set_option linter.unusedSimpArgs false
set_option linter.unusedVariables false
set_option maxRecDepth 10000
set_option maxHeartbeats 400000
namespace Go.Proofs.YtcikcinkjbbnhaaDoor.M
open Go Go.Proofs

theorem mg_one : mg 4607182418800017408 = 1 := by
  have h : partsM 4607182418800017408 = (4503599627370496, -52) := by decide +kernel
  unfold mg
  rw [h]
  have h2 := pw52 (-52)
  have h3 : pw (-52 + 52) = 1 := pw_zero
  rw [h3] at h2
  exact h2.symm
theorem Fn.one : Fn 4607182418800017408 := ⟨⟨by decide, by decide⟩, by decide⟩
theorem pw1 : pw 1 = 2 := pw_one
theorem div_le_of {x y : Rat} (hx : 0 ≤ x) (hy : 1 ≤ y) : x / y ≤ x := by
  have hy0 : y ≠ 0 := by grind
  have h1 : x / y * y = x := Rat.div_mul_cancel hy0
  have h2 : 0 ≤ x / y := div_nn hx (by grind)
  have h3 := mull hy h2
  grind
theorem add_le2 {a b c d : Rat} (h : a ≤ b) (h' : c ≤ d) : a + c ≤ b + d := by grind
theorem ab_div {x y : Int} (hx : Fn x) (hy : Fn y) (hz : mg y ≠ 0) : ab (val x / val y) = mg x / mg y := by
  have hv : val y ≠ 0 := fun e => hz ((mg_zero hy.inu hy.fin).2 ((val_zero hy.inu hy.fin).1 e))
  have e1 : ab (val x / val y) * mg y = mg x := by rw [← hy.ab, ← ab_mul, Rat.div_mul_cancel hv, hx.ab]
  have e2 : mg x / mg y * mg y = mg x := Rat.div_mul_cancel hz
  have e3 : (ab (val x / val y) - mg x / mg y) * mg y = 0 := by grind
  rcases Rat.mul_eq_zero.1 e3 with h | h
  · grind
  · exact absurd h hz
theorem at_set_eqW {r c : Int} {D : List Int} (h : MatOk r c D) {i k : Nat} (hi : (i : Int) < r) (hk : (k : Int) < c) (b : Int) : atM r c c (setM r c c D i k b) i k = b := by
  rw [atM_in' (h.set _ _ _) hi hk, setM_in' h hi hk]
  have hl := place_lt h.r0 h.c0 hi hk
  rw [← h.len] at hl
  rw [List.getD_eq_getElem?_getD, List.getElem?_set_self hl]
  rfl
theorem Fl.zero {r : Int} (h : Fl 0 r) : mg r = 0 := by
  have := h.exact (by rw [ab_zero]; exact rep_zero)
  rw [this, ab_zero]
theorem val0 {x : Int} (h : Fn x) (e : mg x = 0) : val x = 0 := by
  rcases val_ab h with h | h <;> rw [h, e] <;> decide
theorem flip_val' {b : Int} (h : Fn b) : val (flipM b) = - val b := flip_val h.inu h.fin
/-- All numbers, and none greater. -/
def AllB (D : List Int) (B : Rat) : Prop := ∀ x ∈ D, Fn x ∧ mg x ≤ B
theorem AllB.mono {D : List Int} {B B' : Rat} (h : AllB D B) (hB : B ≤ B') : AllB D B' := fun x hx => ⟨(h x hx).1, Rat.le_trans (h x hx).2 hB⟩
theorem AllB.inD {D : List Int} {B : Rat} (h : AllB D B) : InD D := fun x hx => (h x hx).1.inu
theorem AllB.fin {D : List Int} {B : Rat} (h : AllB D B) : finD D = true := List.all_eq_true.2 fun x hx => (h x hx).1.fin
theorem AllB.set {D : List Int} {B : Rat} (h : AllB D B) (i : Nat) {b : Int} (hb : Fn b ∧ mg b ≤ B) : AllB (D.set i b) B := fun x hx => by
  rcases List.mem_or_eq_of_mem_set hx with hx | rfl
  · exact h x hx
  · exact hb
theorem AllB.setm {D : List Int} {B : Rat} (h : AllB D B) (r c s i k : Int) {b : Int} (hb : Fn b ∧ mg b ≤ B) : AllB (setM r c s D i k b) B := by
  unfold M.setM
  split
  · exact h.set _ hb
  · exact h
theorem AllB.at {r c : Int} {D : List Int} {B : Rat} (h : AllB D B) (hD : MatOk r c D) {i k : Nat} (hi : (i : Int) < r) (hk : (k : Int) < c) : Fn (atM r c c D i k) ∧ mg (atM r c c D i k) ≤ B := by
  rw [atM_in' hD hi hk]
  have hl := place_lt hD.r0 hD.c0 hi hk
  rw [← hD.len] at hl
  exact h _ (getD_mem' hl)
theorem iter_ind {α : Type} {f : Nat → α → α} (P : Nat → α → Prop) {m : Nat} {a : α} (h0 : P 0 a) (hs : ∀ k a, k < m → P k a → P (k + 1) (f k a)) : ∀ j, j ≤ m → P j (iter f j a)
  | 0, _ => h0
  | j + 1, hj => hs j _ (by omega) (iter_ind P h0 hs j (by omega))
theorem ge1_ne {x : Rat} (h : 1 ≤ x) : x ≠ 0 := fun e => by rw [e] at h; exact absurd h (by decide)
/-- A quotient by what is at least one. -/
theorem quo_b {x y : Int} (hx : Fn x) (hy : Fn y) (h1 : 1 ≤ mg y) {k : Int} (hk : mg x ≤ pw k) (hkb : -1000 ≤ k ∧ k ≤ 1000) : Fn (divM x y).1 ∧ mg (divM x y).1 ≤ pw k := by
  have h2 : mg x / mg y ≤ pw k := Rat.le_trans (div_le_of hx.mg0 h1) hk
  have h3 := fl_div hx hy (ge1_ne h1) (Rat.le_trans h2 (pw_le (by omega)))
  exact ⟨h3.fn, h3.up _ (rep_pw (by omega)) (by rw [ab_div hx hy (ge1_ne h1)]; exact h2)⟩
theorem sum_b {x y : Int} {k : Int} (hx : Fn x ∧ mg x ≤ pw k) (hy : Fn y ∧ mg y ≤ pw k) (hk : -1000 ≤ k ∧ k ≤ 1000) : Fn (addM x y).1 ∧ mg (addM x y).1 ≤ pw (k + 1) := by
  have h1 : ab (val x + val y) ≤ pw (k + 1) := by
    refine Rat.le_trans (ab_add _ _) ?_
    rw [hx.1.ab, hy.1.ab, pw_succ]
    have : ∀ p q r : Rat, p ≤ r → q ≤ r → p + q ≤ 2 * r := fun p q r h h' => by grind
    exact this _ _ _ hx.2 hy.2
  have h2 := fl_add hx.1 hy.1 (Rat.le_trans h1 (pw_le (by omega)))
  exact ⟨h2.fn, h2.up _ (rep_pw (by omega)) h1⟩
theorem flip_b {x : Int} {B : Rat} (hx : Fn x ∧ mg x ≤ B) : Fn (flipM x) ∧ mg (flipM x) ≤ B := ⟨hx.1.flip, by rw [flip_mg hx.1.inu hx.1.fin]; exact hx.2⟩
theorem mul_b {x y : Int} {k l : Int} (hx : Fn x ∧ mg x ≤ pw k) (hy : Fn y ∧ mg y ≤ pw l) (hk : -1000 ≤ k + l ∧ k + l ≤ 1000) : Fn (mulM x y).1 ∧ mg (mulM x y).1 ≤ pw (k + l) := by
  have h1 : mg x * mg y ≤ pw (k + l) := by
    rw [pw_add]
    exact mul2 hx.2 hy.2 hx.1.mg0 (pw_nn _)
  have h2 := fl_mul hx.1 hy.1 (Rat.le_trans h1 (pw_le (by omega)))
  exact ⟨h2.fn, h2.up _ (rep_pw (by omega)) (by rw [ab_mul, hx.1.ab, hy.1.ab]; exact h1)⟩
end Go.Proofs.YtcikcinkjbbnhaaDoor.M
