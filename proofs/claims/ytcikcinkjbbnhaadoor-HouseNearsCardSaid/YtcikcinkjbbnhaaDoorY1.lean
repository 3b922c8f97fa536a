/- Numbers as fractions: powers of two, and what is nearest on a grid. -/
import Derived.KernelRfl
set_option linter.unusedSimpArgs false
set_option linter.unusedVariables false
namespace Go.Proofs.YtcikcinkjbbnhaaDoor.M
open Go

/-! ### Powers of two -/
def pw (e : Int) : Rat := (2 : Rat) ^ e
theorem pw_pos (e : Int) : 0 < pw e := Rat.zpow_pos rfl
theorem pw_nn (e : Int) : 0 ≤ pw e := Rat.le_of_lt (pw_pos e)
theorem pw_add (a b : Int) : pw (a + b) = pw a * pw b := Rat.zpow_add (by decide) a b
theorem pw_zero : pw 0 = 1 := Rat.zpow_zero _
theorem pw_one : pw 1 = 2 := Rat.zpow_one _
theorem pw_succ (a : Int) : pw (a + 1) = 2 * pw a := by rw [pw_add, pw_one, Rat.mul_comm]
theorem pw_nat (n : Nat) : pw (n : Int) = (((2 ^ n : Int)) : Rat) := by
  unfold pw
  rw [Rat.zpow_natCast]
  push_cast; rfl
theorem pw_int {n : Int} (h : 0 ≤ n) : pw n = (((2 ^ n.toNat : Int)) : Rat) := by
  have := pw_nat n.toNat
  rwa [show ((n.toNat : Nat) : Int) = n by omega] at this
theorem pw_ne (e : Int) : pw e ≠ 0 := by have := pw_pos e; grind
theorem pw_sub (a b : Int) : pw (a - b) * pw b = pw a := by rw [← pw_add]; congr 1; omega
theorem pw_neg (a : Int) : pw (-a) * pw a = 1 := by rw [← pw_add, ← pw_zero]; congr 1; omega

theorem ile {a b : Int} (h : a ≤ b) : (a : Rat) ≤ (b : Rat) := Rat.intCast_le_intCast.2 h
theorem ilt {a b : Int} (h : a < b) : (a : Rat) < (b : Rat) := Rat.intCast_lt_intCast.2 h
theorem ile' {a b : Int} (h : (a : Rat) ≤ (b : Rat)) : a ≤ b := Rat.intCast_le_intCast.1 h
theorem ilt' {a b : Int} (h : (a : Rat) < (b : Rat)) : a < b := Rat.intCast_lt_intCast.1 h

theorem lelt {a b c : Rat} (h : a ≤ b) (h' : b < c) : a < c := by grind
theorem ltle {a b c : Rat} (h : a < b) (h' : b ≤ c) : a < c := by grind
theorem sqsc {z p : Rat} : z * p * (z * p) = z * z * (p * p) := by grind
theorem izero {x : Int} (h : (x : Rat) = 0) : x = 0 := by exact_mod_cast h

/-! ### Products held against each other -/
theorem mulr {a b c : Rat} (h : a ≤ b) (hc : 0 ≤ c) : a * c ≤ b * c := Rat.mul_le_mul_of_nonneg_right h hc
theorem mull {a b c : Rat} (h : a ≤ b) (hc : 0 ≤ c) : c * a ≤ c * b := Rat.mul_le_mul_of_nonneg_left h hc
theorem mulrl {a b c : Rat} (h : a < b) (hc : 0 < c) : a * c < b * c := Rat.mul_lt_mul_of_pos_right h hc
theorem mulll {a b c : Rat} (h : a < b) (hc : 0 < c) : c * a < c * b := Rat.mul_lt_mul_of_pos_left h hc
theorem mulc {a b c : Rat} (h : a * c ≤ b * c) (hc : 0 < c) : a ≤ b := Rat.le_of_mul_le_mul_right h hc
theorem mulcl {a b c : Rat} (h : a * c < b * c) (hc : 0 < c) : a < b := Rat.lt_of_mul_lt_mul_right h (Rat.le_of_lt hc)
theorem mulnn {a b : Rat} (h : 0 ≤ a) (hb : 0 ≤ b) : 0 ≤ a * b := Rat.mul_nonneg h hb
theorem mul2 {a b c d : Rat} (h : a ≤ b) (h' : c ≤ d) (ha : 0 ≤ a) (hd : 0 ≤ d) : a * c ≤ b * d := Rat.le_trans (mull h' ha) (mulr h hd)
theorem sqnn (a : Rat) : 0 ≤ a * a := by
  rcases Rat.le_total (a := 0) (b := a) with h | h
  · exact mulnn h h
  · have h1 : 0 ≤ -a := by grind
    have := mulnn h1 h1
    grind
theorem pw_le {a b : Int} (h : a ≤ b) : pw a ≤ pw b := by
  obtain ⟨n, rfl⟩ : ∃ n : Nat, b = a + n := ⟨(b - a).toNat, by omega⟩
  induction n with
  | zero => simp
  | succ n ih =>
    have e : a + ((n + 1 : Nat) : Int) = a + (n : Int) + 1 := by omega
    rw [e, pw_succ]
    have h1 := ih (by omega)
    have h2 := pw_pos (a + (n : Int))
    grind
theorem pw_lt {a b : Int} (h : a < b) : pw a < pw b := by
  have h1 := pw_le (a := a + 1) (b := b) (by omega)
  rw [pw_succ] at h1
  have := pw_pos a
  grind
theorem pw_inv {a b : Int} (h : pw a < pw b) : a < b := by
  rcases Int.lt_or_le a b with h1 | h1
  · exact h1
  · have := pw_le h1
    grind
theorem pw_inv' {a b : Int} (h : pw a ≤ pw b) : a ≤ b := by
  rcases Int.lt_or_le b a with h1 | h1
  · have := pw_lt h1
    grind
  · exact h1

/-! ### Without the sign -/
def ab (x : Rat) : Rat := if 0 ≤ x then x else -x
theorem ab_nn (x : Rat) : 0 ≤ ab x := by unfold ab; split <;> grind
theorem ab_le {x y : Rat} : ab x ≤ y ↔ x ≤ y ∧ -x ≤ y := by unfold ab; split <;> constructor <;> grind
theorem le_ab (x : Rat) : x ≤ ab x ∧ -x ≤ ab x := ab_le.1 (Rat.le_refl)
theorem ab_mul (x y : Rat) : ab (x * y) = ab x * ab y := by
  unfold ab
  by_cases hx : 0 ≤ x <;> by_cases hy : 0 ≤ y
  · rw [if_pos hx, if_pos hy, if_pos (mulnn hx hy)]
  · rw [if_pos hx, if_neg hy]
    have := mulnn hx (show 0 ≤ -y by grind)
    split <;> grind
  · rw [if_neg hx, if_pos hy]
    have := mulnn (show 0 ≤ -x by grind) hy
    split <;> grind
  · rw [if_neg hx, if_neg hy]
    have := mulnn (show 0 ≤ -x by grind) (show 0 ≤ -y by grind)
    split <;> grind
theorem ab_add (x y : Rat) : ab (x + y) ≤ ab x + ab y := by
  have h1 := le_ab x
  have h2 := le_ab y
  rw [ab_le]; grind
theorem ab_neg (x : Rat) : ab (-x) = ab x := by unfold ab; split <;> split <;> grind
theorem ab_of {x : Rat} (h : 0 ≤ x) : ab x = x := by unfold ab; rw [if_pos h]
theorem ab_sq (x : Rat) : ab x * ab x = x * x := by
  have : x * x = ab (x * x) := (ab_of (sqnn x)).symm
  rw [this, ab_mul]
theorem ab_zero : ab 0 = 0 := ab_of (Rat.le_refl)
theorem ab_eq_zero {x : Rat} (h : ab x = 0) : x = 0 := by unfold ab at h; split at h <;> grind

/-! ### The nearest on a grid -/
/-- m is the whole number nearest to X, in units of D; the order of numbers is kept. -/
structure Nr (X D : Rat) (m : Int) : Prop where
  lo : ∀ y : Int, (y : Rat) * D ≤ X → y ≤ m
  hi : ∀ y : Int, X ≤ (y : Rat) * D → m ≤ y
  near : ab ((m : Rat) * D - X) * 2 ≤ D
  ev : ab ((m : Rat) * D - X) * 2 = D → m % 2 = 0

theorem Nr.of_exact {X D : Rat} {m : Int} (hD : 0 < D) (h : (m : Rat) * D = X) : Nr X D m where
  lo y hy := by
    rw [← h] at hy
    exact_mod_cast mulc hy hD
  hi y hy := by
    rw [← h] at hy
    exact_mod_cast mulc hy hD
  near := by
    have : (m : Rat) * D - X = 0 := by grind
    rw [this, ab_zero]; grind
  ev e := by
    have : (m : Rat) * D - X = 0 := by grind
    rw [this, ab_zero] at e
    exfalso; grind

/-- r whole ones and t parts of D = 2 h, and a little more (th) that is less than one part: what is rounded to even. -/
theorem Nr.of_parts {r t D h : Int} {th : Rat} (hD : D = 2 * h) (hh : 1 ≤ h) (ht : 0 ≤ t ∧ t < D) (hth : 0 ≤ th ∧ th < 1) {m : Int}
    (hm : m = if h ≤ t ∧ (t ≠ h ∨ th ≠ 0 ∨ r % 2 = 1) then r + 1 else r) {u X : Rat} (hu : 0 < u) (hX : X = (((r * D + t : Int) : Rat) + th) * u) : Nr X ((D : Rat) * u) m := by
  have hDr : (D : Rat) = 2 * (h : Rat) := by rw [hD]; push_cast; rfl
  have hh' : (1 : Rat) ≤ (h : Rat) := by exact_mod_cast hh
  have ht1 : (0 : Rat) ≤ (t : Rat) := by exact_mod_cast ht.1
  have ht2 : (t : Rat) + 1 ≤ (D : Rat) := by exact_mod_cast ht.2
  have hXe : X = ((r : Rat) * D + t + th) * u := by rw [hX]; push_cast; rfl
  have hDu : 0 < (D : Rat) * u := Rat.mul_pos (by grind) hu
  have hlow : (r : Rat) * ((D : Rat) * u) ≤ X := by
    have := mulr (c := u) (show (r : Rat) * D ≤ (r : Rat) * D + t + th by grind) (Rat.le_of_lt hu)
    grind
  have hup : X < ((r + 1 : Int) : Rat) * ((D : Rat) * u) := by
    have := mulrl (c := u) (show (r : Rat) * D + t + th < (r : Rat) * D + D by grind) hu
    push_cast
    grind
  have h1 : ∀ y : Int, (y : Rat) * ((D : Rat) * u) ≤ X → y ≤ r := fun y hy => by
    have : (y : Rat) < ((r + 1 : Int) : Rat) := mulcl (c := (D : Rat) * u) (by grind) hDu
    have : y < r + 1 := by exact_mod_cast this
    omega
  have h2 : ∀ y : Int, X ≤ (y : Rat) * ((D : Rat) * u) → r ≤ y := fun y hy => by
    have : (r : Rat) ≤ (y : Rat) := mulc (c := (D : Rat) * u) (by grind) hDu
    exact_mod_cast this
  by_cases hc : h ≤ t ∧ (t ≠ h ∨ th ≠ 0 ∨ r % 2 = 1)
  · rw [if_pos hc] at hm
    subst hm
    have hhu : (h : Rat) ≤ (t : Rat) := by exact_mod_cast hc.1
    refine ⟨fun y hy => by have := h1 y hy; omega, fun y hy => ?_, ?_, fun he => ?_⟩
    · have h3 := h2 y hy
      rcases Int.lt_or_le r y with h4 | h4
      · omega
      · have : y = r := by omega
        subst this
        exfalso
        have : X = (y : Rat) * ((D : Rat) * u) := by grind
        rw [hXe] at this
        have h5 : ((t : Rat) + th) * u = 0 := by grind
        have h6 : 0 < ((t : Rat) + th) * u := Rat.mul_pos (by grind) hu
        grind
    · rw [ab_of (by grind)]
      push_cast
      have := mulr (c := u) (show ((D : Rat) - t - th) * 2 ≤ (D : Rat) by grind) (Rat.le_of_lt hu)
      grind
    · rw [ab_of (by grind)] at he
      push_cast at he
      have e1 : (((t : Rat) - h) + th) * u = 0 := by grind
      have e2 : (t : Rat) - h + th = 0 := by
        rcases Rat.mul_eq_zero.1 e1 with e | e
        · exact e
        · exfalso; grind
      have e3 : th = 0 := by grind
      have e4 : (t : Rat) = (h : Rat) := by grind
      have e5 : t = h := by exact_mod_cast e4
      rcases hc.2 with h3 | h3 | h3
      · exact absurd e5 h3
      · exact absurd e3 h3
      · omega
  · rw [if_neg hc] at hm
    subst hm
    refine ⟨h1, h2, ?_, fun he => ?_⟩
    rotate_left
    · have e0 : (m : Rat) * ((D : Rat) * u) - X = -(((t : Rat) + th) * u) := by grind
      rw [e0, ab_neg, ab_of (mulnn (by grind) (Rat.le_of_lt hu))] at he
      have e1 : (((t : Rat) - h) + th) * u = 0 := by grind
      have e2 : (t : Rat) - h + th = 0 := by
        rcases Rat.mul_eq_zero.1 e1 with e | e
        · exact e
        · exfalso; grind
      rcases Int.lt_or_le t h with h3 | h3
      · exfalso
        have : (t : Rat) + 1 ≤ (h : Rat) := by exact_mod_cast h3
        grind
      · have e3 : (h : Rat) ≤ (t : Rat) := by exact_mod_cast h3
        have e4 : th = 0 := by grind
        have e5 : (t : Rat) = (h : Rat) := by grind
        have e6 : t = h := by exact_mod_cast e5
        by_cases h4 : m % 2 = 1
        · exact absurd ⟨h3, .inr (.inr h4)⟩ hc
        · omega
    have hle : ((t : Rat) + th) * 2 ≤ (D : Rat) := by
      rcases Int.lt_or_le t h with h3 | h3
      · have : (t : Rat) + 1 ≤ (h : Rat) := by exact_mod_cast h3
        grind
      · have h4 : t = h := by
          rcases Int.lt_or_eq_of_le h3 with h5 | h5
          · exact absurd ⟨h3, .inl (by omega)⟩ hc
          · exact h5.symm
        have h5 : th = 0 := by
          by_cases h6 : th = 0
          · exact h6
          · exact absurd ⟨h3, .inr (.inl h6)⟩ hc
        rw [h4, h5]; grind
    have he : (m : Rat) * ((D : Rat) * u) - X = -(((t : Rat) + th) * u) := by grind
    rw [he, ab_neg, ab_of (mulnn (by grind) (Rat.le_of_lt hu))]
    have := mulr (c := u) hle (Rat.le_of_lt hu)
    grind
theorem Nr.det {X D : Rat} {m k : Int} (hD : 0 < D) (h : Nr X D m) (h' : Nr X D k) : m = k := by
  have key : ∀ {m k : Int}, Nr X D m → Nr X D k → m < k → False := fun {m k} h h' hlt => by
    have a1 := h.near
    have a2 := h'.near
    have b1 := le_ab ((m : Rat) * D - X)
    have b2 := le_ab ((k : Rat) * D - X)
    have c1 : (m : Rat) + 1 ≤ (k : Rat) := by exact_mod_cast hlt
    have c2 := mulr c1 (Rat.le_of_lt hD)
    have e1 : ab ((m : Rat) * D - X) * 2 = D := by grind
    have e2 : ab ((k : Rat) * D - X) * 2 = D := by grind
    have e3 : (k : Rat) * D = ((m : Rat) + 1) * D := by grind
    have e4 : (k : Rat) = (m : Rat) + 1 := by
      have : ((k : Rat) - (m + 1)) * D = 0 := by grind
      rcases Rat.mul_eq_zero.1 this with e | e
      · grind
      · exfalso; grind
    have e5 : k = m + 1 := by exact_mod_cast e4
    have := h.ev e1
    have := h'.ev e2
    omega
  rcases Int.lt_trichotomy m k with h1 | h1 | h1
  · exact (key h h' h1).elim
  · exact h1
  · exact (key h' h h1).elim
theorem Nr.mono {X D : Rat} {m k : Int} (hD : 0 < D) (h : Nr X D m) (hk : (k : Rat) * D ≤ X) : k ≤ m := h.lo k hk
end Go.Proofs.YtcikcinkjbbnhaaDoor.M
