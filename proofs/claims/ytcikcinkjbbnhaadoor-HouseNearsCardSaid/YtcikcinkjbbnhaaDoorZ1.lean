/- Sums, and numbers that are near each other by a factor. -/
import Derived.Test.YtcikcinkjbbnhaaDoorY11
set_option linter.unusedSimpArgs false
set_option linter.unusedVariables false
namespace Go.Proofs.YtcikcinkjbbnhaaDoor.M
open Go Go.Proofs

/-- A sum over the first n. -/
def sm (f : Nat → Rat) : Nat → Rat
  | 0 => 0
  | n + 1 => sm f n + f n
theorem sm_congr {f g : Nat → Rat} : ∀ n, (∀ i, i < n → f i = g i) → sm f n = sm g n
  | 0, _ => rfl
  | n + 1, h => by rw [sm, sm, sm_congr n (fun i hi => h i (by omega)), h n (by omega)]
theorem sm_add (f g : Nat → Rat) : ∀ n, sm (fun i => f i + g i) n = sm f n + sm g n
  | 0 => by rw [sm, sm, sm, Rat.add_zero]
  | n + 1 => by rw [sm, sm, sm, sm_add f g n]; grind
theorem sm_mul (c : Rat) (f : Nat → Rat) : ∀ n, sm (fun i => c * f i) n = c * sm f n
  | 0 => by simp [sm]
  | n + 1 => by rw [sm, sm, sm_mul c f n]; grind
theorem sm_le {f g : Nat → Rat} : ∀ n, (∀ i, i < n → f i ≤ g i) → sm f n ≤ sm g n
  | 0, _ => Rat.le_refl
  | n + 1, h => by
    have h1 := sm_le n (fun i hi => h i (by omega))
    have h2 := h n (by omega)
    rw [sm, sm]; grind
theorem sm_zero : ∀ n, sm (fun _ => 0) n = 0
  | 0 => rfl
  | n + 1 => by rw [sm, sm_zero n]; grind
theorem sm_nn {f : Nat → Rat} (n : Nat) (h : ∀ i, i < n → 0 ≤ f i) : 0 ≤ sm f n := by
  have := sm_le (f := fun _ => 0) n h
  rw [sm_zero] at this; exact this
theorem sm_sq_nn (f : Nat → Rat) (n : Nat) : 0 ≤ sm (fun i => f i * f i) n := sm_nn n fun i _ => sqnn _
theorem sm_pos_le {f : Nat → Rat} : ∀ n, (∀ i, i < n → 0 ≤ f i) → ∀ i, i < n → f i ≤ sm f n
  | 0, _, i, hi => by omega
  | n + 1, h, i, hi => by
    have h1 := sm_nn n (fun i hi => h i (by omega))
    have h2 := h n (by omega)
    rw [sm]
    by_cases e : i = n
    · subst e; grind
    · have := sm_pos_le n (fun i hi => h i (by omega)) i (by omega)
      grind
theorem sm_const (c : Rat) : ∀ n : Nat, sm (fun _ => c) n = ((n : Int) : Rat) * c
  | 0 => by rw [sm]; simp
  | n + 1 => by
    rw [sm, sm_const c n]
    have : (((n + 1 : Nat) : Int) : Rat) = ((n : Int) : Rat) + 1 := by push_cast; rfl
    rw [this]; grind
/-- Cauchy's inequality. -/
theorem cauchy (f g : Nat → Rat) (n : Nat) : sm (fun i => f i * g i) n * sm (fun i => f i * g i) n ≤ sm (fun i => f i * f i) n * sm (fun i => g i * g i) n := by
  obtain ⟨F, hF⟩ : ∃ F, sm (fun i => f i * f i) n = F := ⟨_, rfl⟩
  obtain ⟨G, hG⟩ : ∃ G, sm (fun i => g i * g i) n = G := ⟨_, rfl⟩
  obtain ⟨X, hX⟩ : ∃ X, sm (fun i => f i * g i) n = X := ⟨_, rfl⟩
  have hq : ∀ t : Rat, 0 ≤ F - 2 * t * X + t * t * G := fun t => by
    have h1 := sm_sq_nn (fun i => f i - t * g i) n
    have h2 : sm (fun i => (f i - t * g i) * (f i - t * g i)) n = sm (fun i => f i * f i + ((-2 * t) * (f i * g i) + t * t * (g i * g i))) n := sm_congr n fun i _ => by grind
    rw [h2, sm_add, sm_add, sm_mul, sm_mul, hF, hG, hX] at h1
    grind
  rw [hF, hG, hX]
  have hG0 : 0 ≤ G := by rw [← hG]; exact sm_sq_nn _ _
  have hF0 : 0 ≤ F := by rw [← hF]; exact sm_sq_nn _ _
  by_cases h0 : G = 0
  · have h1 : ∀ i, i < n → g i * g i = 0 := fun i hi => by
      have a := sm_pos_le (f := fun i => g i * g i) n (fun i _ => sqnn _) i hi
      rw [hG, h0] at a
      exact Rat.le_antisymm a (sqnn _)
    have h2 : X = 0 := by
      rw [← hX, sm_congr (g := fun _ => 0) n (fun i hi => ?_), sm_zero]
      have h3 := h1 i hi
      rcases Rat.mul_eq_zero.1 h3 with e | e <;> rw [e, Rat.mul_zero]
    rw [h0, h2]; simp
  · have h1 := hq (X / G)
    have h2 : X / G * G = X := by rw [Rat.div_mul_cancel h0]
    have h3 : (F - 2 * (X / G) * X + X / G * (X / G) * G) * G = F * G - X * X := by
      have e1 : X / G * (X / G) * G * G = X * X := by
        calc X / G * (X / G) * G * G = (X / G * G) * (X / G * G) := by grind
          _ = X * X := by rw [h2]
      have e2 : 2 * (X / G) * X * G = 2 * X * X := by
        calc 2 * (X / G) * X * G = 2 * X * (X / G * G) := by grind
          _ = 2 * X * X := by rw [h2]
      grind
    have h4 := mulnn h1 hG0
    rw [h3] at h4
    grind

theorem nat_nn (k : Nat) : (0 : Rat) ≤ ((k : Int) : Rat) := ile (a := 0) (by omega)

/-! ### Near by a factor -/
def u53 : Rat := pw (-53)
def pk : Nat → Rat
  | 0 => 1
  | k + 1 => pk k * (1 - u53)
theorem u53_lit : u53 = 1 / 9007199254740992 := by
  unfold u53
  have h := pw_neg 53
  rw [pw_lit (n := 53) (k := 9007199254740992) (by decide) (by decide)] at h
  grind
theorem u53_pos : 0 < u53 := pw_pos _
theorem u53_small : u53 ≤ 1 / 1000000000000 := by rw [u53_lit]; grind
theorem pk_pos : ∀ k, 0 < pk k
  | 0 => by decide
  | k + 1 => Rat.mul_pos (pk_pos k) (by have := u53_small; grind)
theorem pk_le : ∀ k, pk k ≤ 1
  | 0 => Rat.le_refl
  | k + 1 => by
    have h1 := pk_le k
    have h2 := pk_pos k
    have h3 := u53_pos
    have h4 : pk k * (1 - u53) ≤ pk k * 1 := mull (by grind) (Rat.le_of_lt h2)
    rw [pk]; grind
theorem pk_add (a : Nat) : ∀ b, pk (a + b) = pk a * pk b
  | 0 => by rw [Nat.add_zero, pk, Rat.mul_one]
  | b + 1 => by rw [← Nat.add_assoc, pk, pk, pk_add a b, Rat.mul_assoc]
theorem pk_mono {a b : Nat} (h : a ≤ b) : pk b ≤ pk a := by
  obtain ⟨c, rfl⟩ : ∃ c, b = a + c := ⟨b - a, by omega⟩
  rw [pk_add]
  have := mull (pk_le c) (Rat.le_of_lt (pk_pos a))
  rw [Rat.mul_one] at this; exact this
theorem bern : ∀ k : Nat, 1 - ((k : Int) : Rat) * u53 ≤ pk k
  | 0 => by rw [pk]; simp; grind
  | k + 1 => by
    have h1 := bern k
    have h2 := u53_pos
    have h3 : (((k + 1 : Nat) : Int) : Rat) = ((k : Int) : Rat) + 1 := by push_cast; rfl
    have h4 : (0 : Rat) ≤ ((k : Int) : Rat) := nat_nn k
    have h5 := mulr h1 (show (0 : Rat) ≤ 1 - u53 by have := u53_small; grind)
    have h6 : 0 ≤ ((k : Int) : Rat) * u53 * u53 := mulnn (mulnn h4 (Rat.le_of_lt h2)) (Rat.le_of_lt h2)
    rw [pk, h3]
    grind
structure Nb (k : Nat) (x y : Rat) : Prop where
  le : pk k * x ≤ y
  ge : pk k * y ≤ x
theorem Nb.refl (x : Rat) : Nb 0 x x := ⟨by rw [pk, Rat.one_mul]; exact Rat.le_refl, by rw [pk, Rat.one_mul]; exact Rat.le_refl⟩
theorem Nb.symm {k x y} (h : Nb k x y) : Nb k y x := ⟨h.ge, h.le⟩
theorem Nb.trans {j k x y z} (h : Nb j x y) (h' : Nb k y z) : Nb (j + k) x z := by
  have pj := Rat.le_of_lt (pk_pos j)
  have pk' := Rat.le_of_lt (pk_pos k)
  refine ⟨?_, ?_⟩
  · rw [pk_add, show pk j * pk k * x = pk k * (pk j * x) by grind]
    exact Rat.le_trans (mull h.le pk') h'.le
  · rw [pk_add, Rat.mul_assoc]
    exact Rat.le_trans (mull h'.ge pj) h.ge
theorem Nb.mono {j k x y} (h : Nb j x y) (hk : j ≤ k) (hx : 0 ≤ x) (hy : 0 ≤ y) : Nb k x y :=
  ⟨Rat.le_trans (mulr (pk_mono hk) hx) h.le, Rat.le_trans (mulr (pk_mono hk) hy) h.ge⟩
theorem Nb.mul {j k x y z w} (h : Nb j x y) (h' : Nb k z w) (hx : 0 ≤ x) (hy : 0 ≤ y) (hz : 0 ≤ z) (hw : 0 ≤ w) : Nb (j + k) (x * z) (y * w) := by
  have pj := Rat.le_of_lt (pk_pos j)
  have pk' := Rat.le_of_lt (pk_pos k)
  refine ⟨?_, ?_⟩
  · rw [pk_add, show pk j * pk k * (x * z) = (pk j * x) * (pk k * z) by grind]
    exact mul2 h.le h'.le (mulnn pj hx) hw
  · rw [pk_add, show pk j * pk k * (y * w) = (pk j * y) * (pk k * w) by grind]
    exact mul2 h.ge h'.ge (mulnn pj hy) hz
theorem Nb.add {k x y z w} (h : Nb k x y) (h' : Nb k z w) : Nb k (x + z) (y + w) := by
  have a := h.le; have b := h'.le; have c := h.ge; have d := h'.ge
  refine ⟨?_, ?_⟩
  · rw [Rat.mul_add]; exact add_le2 a b
  · rw [Rat.mul_add]; exact add_le2 c d
theorem Nb.inv {k x y} (h : Nb k x y) (hx : 0 < x) (hy : 0 < y) : Nb k (1 / x) (1 / y) := by
  have hxn : x ≠ 0 := by grind
  have hyn : y ≠ 0 := by grind
  have e1 : 1 / x * x = 1 := Rat.div_mul_cancel hxn
  have e2 : 1 / y * y = 1 := Rat.div_mul_cancel hyn
  have i1 : 0 < x * y := Rat.mul_pos hx hy
  refine ⟨?_, ?_⟩
  · refine mulc (c := x * y) ?_ i1
    rw [show pk k * (1 / x) * (x * y) = pk k * y * (1 / x * x) by grind, show 1 / y * (x * y) = x * (1 / y * y) by grind, e1, e2, Rat.mul_one, Rat.mul_one]
    exact h.ge
  · refine mulc (c := x * y) ?_ i1
    rw [show pk k * (1 / y) * (x * y) = pk k * x * (1 / y * y) by grind, show 1 / x * (x * y) = y * (1 / x * x) by grind, e1, e2, Rat.mul_one, Rat.mul_one]
    exact h.le
theorem Nb.div {j k x y z w} (h : Nb j x y) (h' : Nb k z w) (hx : 0 ≤ x) (hy : 0 ≤ y) (hz : 0 < z) (hw : 0 < w) : Nb (j + k) (x / z) (y / w) := by
  have e : ∀ a b : Rat, a / b = a * (1 / b) := fun a b => by rw [Rat.div_def, Rat.div_def, Rat.one_mul]
  rw [e x, e y]
  exact h.mul (h'.inv hz hw) hx hy (div_nn (by decide) hz) (div_nn (by decide) hw)
/-- The distance. -/
theorem Nb.dist {k x y} (h : Nb k x y) (hx : 0 ≤ x) (hy : 0 ≤ y) (hk : (k : Int) ≤ 1000000) : ab (x - y) ≤ 2 * (((k : Int) : Rat) * u53) * y := by
  have b := bern k
  have hku : ((k : Int) : Rat) * u53 ≤ 1 / 1000000 := by
    have h1 : ((k : Int) : Rat) ≤ (1000000 : Rat) := ile hk
    have := mul2 h1 u53_small (nat_nn k) (by grind)
    exact Rat.le_trans this (by grind)
  have h0 : 0 ≤ ((k : Int) : Rat) * u53 := mulnn (nat_nn k) (Rat.le_of_lt u53_pos)
  generalize ((k : Int) : Rat) * u53 = t at b hku h0
  have h1 := mulr b hx
  have h2 := mulr b hy
  have h3 := Rat.le_trans h1 h.le
  have h4 := Rat.le_trans h2 h.ge
  have h5 : 0 ≤ t * y := mulnn h0 hy
  have h6 : 0 ≤ t * x := mulnn h0 hx
  have h7 : t * x ≤ 1 / 1000000 * x := mulr hku hx
  have h8 : t * y ≤ 1 / 1000000 * y := mulr hku hy
  -- x ≤ 2 y, and so t x ≤ 2 t y
  have h9 : x ≤ 2 * y := by grind
  have h10 : t * x ≤ t * (2 * y) := mull h9 h0
  refine ab_le.2 ⟨?_, ?_⟩ <;> grind
end Go.Proofs.YtcikcinkjbbnhaaDoor.M
