/- The values of patterns; what rounding answers, as a fraction. -/
import Derived.Test.YtcikcinkjbbnhaaDoorX1
import Derived.Test.YtcikcinkjbbnhaaDoorY1
set_option linter.unusedSimpArgs false
set_option linter.unusedVariables false
set_option maxRecDepth 10000
set_option maxHeartbeats 4000000
namespace Go.Proofs.YtcikcinkjbbnhaaDoor.M
open Go Go.Proofs

theorem negM_eq {b : Int} (h : InU b) : negM b = decide (9223372036854775808 ≤ b) := by
  have h1 := h.1
  have h2 := h.2
  unfold negM
  rw [shrK (by decide)]
  have e : (2 : Int) ^ (63 : Int).toNat = 9223372036854775808 := by decide
  rw [e, decide_eq_decide]
  omega
theorem makeM_eq' (s : Bool) {e f : Int} (h : 0 ≤ e) (h' : e ≤ 2047) (g : InU f) : makeM s e f = (if s = true then 9223372036854775808 else 0) + e * 4503599627370496 + f % 4503599627370496 := by
  have g1 := g.1
  have g2 := g.2
  unfold makeM
  have e0 : bits .and .u64 (IntKind.u64.wrap e) 2047 = e := by
    rw [wrap_u64, and_2047 (by omega) (by omega)]; omega
  have e1 : shlV .u64 (bits .and .u64 (IntKind.u64.wrap e) 2047) 52 = e * 4503599627370496 := by
    rw [e0]
    unfold shlV
    have : min (52 : Int).toNat IntKind.u64.bits = 52 := by decide
    rw [this, wrap_u64]
    have p52 : (2 : Int) ^ 52 = 4503599627370496 := by decide
    rw [p52]
    omega
  have e2 : bits .or .u64 (shlV .u64 (bits .and .u64 (IntKind.u64.wrap e) 2047) 52) (bits .and .u64 f 4503599627370495) = e * 4503599627370496 + f % 4503599627370496 := by
    rw [e1, and_52 g1 (by omega)]
    exact or_join (by omega) (by omega) (by omega) (by omega) (by omega)
  rw [e2]
  cases s
  · simp
  · simp only [if_true]
    rw [or_63 (by omega) (by omega)]
    omega
theorem neg_make (s : Bool) {e f : Int} (h : 0 ≤ e) (h' : e ≤ 2047) (g : InU f) : negM (makeM s e f) = s := by
  have hi := make_in s e f
  rw [negM_eq hi, makeM_eq' s h h' g]
  cases s
  · simp only [Bool.false_eq_true, if_false, decide_eq_false_iff_not]; omega
  · simp only [if_true, decide_eq_true_eq]; omega
theorem exp_make' (s : Bool) {e f : Int} (h : 0 ≤ e) (h' : e ≤ 2047) (g : InU f) : expM (makeM s e f) = e := by
  rw [expM_eq (make_in s e f), makeM_eq' s h h' g]
  split <;> omega
theorem frac_make (s : Bool) {e f : Int} (h : 0 ≤ e) (h' : e ≤ 2047) (g : InU f) : fracM (makeM s e f) = f % 4503599627370496 := by
  rw [fracM_eq (make_in s e f), makeM_eq' s h h' g]
  split <;> omega
theorem or_52 {x : Int} (h : 0 ≤ x) (h' : x < 4503599627370496) : bits .or .u64 x 4503599627370496 = x + 4503599627370496 := by go_bits2
/-- A pattern's parts. -/
theorem parts_eq {b : Int} (h : InU b) (hf : finiteM b = true) : partsM b = if b % 9223372036854775808 = 0 then (0, 0) else if expM b = 0 then (b % 4503599627370496, -1074) else (b % 4503599627370496 + 4503599627370496, expM b - 1075) := by
  have h1 := h.1
  have h2 := h.2
  have he := expM_eq h
  have hfr := fracM_eq h
  rcases kind_fin hf with hk | ⟨hk, h0⟩ | ⟨hk, h0, h3⟩
  · have hz := (kind_zero h).1 hk
    rw [absM_eq h] at hz
    rw [if_pos hz]
    unfold partsM; rw [hk]; rfl
  · have hz : ¬ b % 9223372036854775808 = 0 := fun hz => by
      rw [← absM_eq h] at hz
      have := (kind_zero h).2 hz
      omega
    rw [if_neg hz, if_pos h0]
    unfold partsM; rw [if_pos hk, hfr]
  · have hz : ¬ b % 9223372036854775808 = 0 := fun hz => by
      rw [← absM_eq h] at hz
      have := (kind_zero h).2 hz
      omega
    rw [if_neg hz, if_neg (by omega)]
    unfold partsM
    rw [if_neg (by omega), if_pos hk, hfr, or_52 (by omega) (by omega), wrap_i64 (by omega)]

/-! ### Values -/
def sgn (s : Bool) : Rat := if s = true then -1 else 1
def mg (b : Int) : Rat := ((partsM b).1 : Rat) * pw (partsM b).2
/-- What a pattern stands for. -/
def val (b : Int) : Rat := sgn (negM b) * mg b
theorem sgn_sq (s : Bool) : sgn s * sgn s = 1 := by cases s <;> simp [sgn] <;> grind
theorem sgn_xor (s t : Bool) : sgn (s != t) = sgn s * sgn t := by cases s <;> cases t <;> simp [sgn] <;> grind
theorem sgn_not (s : Bool) : sgn (!s) = - sgn s := by cases s <;> simp [sgn]
theorem ab_sgn (s : Bool) (x : Rat) : ab (sgn s * x) = ab x := by
  cases s
  · simp [sgn]
  · simp only [sgn, if_true]
    rw [show (-1 : Rat) * x = -x by grind, ab_neg]
theorem mg_nn {b : Int} (h : InU b) : 0 ≤ mg b := mulnn (by exact_mod_cast (parts53 h).1) (pw_nn _)
theorem ab_val {b : Int} (h : InU b) : ab (val b) = mg b := by unfold val; rw [ab_sgn, ab_of (mg_nn h)]
theorem mg_make0 (s : Bool) {f : Int} (h : 0 ≤ f) (h' : f < 4503599627370496) : mg (makeM s 0 f) = (f : Rat) * pw (-1074) := by
  have g : InU f := ⟨h, by omega⟩
  have hi := make_in s 0 f
  unfold mg
  rw [parts_eq hi (finite_make s (by decide) (by decide) g), exp_make' s (by decide) (by decide) g, makeM_eq' s (by decide) (by decide) g]
  by_cases h0 : f = 0
  · subst h0
    have : ((if s = true then 9223372036854775808 else 0) + 0 * 4503599627370496 + (0 : Int) % 4503599627370496) % 9223372036854775808 = 0 := by cases s <;> simp
    rw [if_pos this]
    grind
  · have : ¬ ((if s = true then 9223372036854775808 else 0) + 0 * 4503599627370496 + f % 4503599627370496) % 9223372036854775808 = 0 := by split <;> omega
    rw [if_neg this, if_pos rfl]
    have : ((if s = true then 9223372036854775808 else 0) + 0 * 4503599627370496 + f % 4503599627370496) % 4503599627370496 = f := by split <;> omega
    rw [this]
theorem mg_makeN (s : Bool) {e f : Int} (he : 1 ≤ e) (he' : e ≤ 2046) (h : 4503599627370496 ≤ f) (h' : f < 9007199254740992) : mg (makeM s e f) = (f : Rat) * pw (e - 1075) := by
  have g : InU f := ⟨by omega, by omega⟩
  have hi := make_in s e f
  unfold mg
  rw [parts_eq hi (finite_make s (by omega) (by omega) g), exp_make' s (by omega) (by omega) g, makeM_eq' s (by omega) (by omega) g]
  have : ¬ ((if s = true then 9223372036854775808 else 0) + e * 4503599627370496 + f % 4503599627370496) % 9223372036854775808 = 0 := by split <;> omega
  rw [if_neg this, if_neg (by omega)]
  have : ((if s = true then 9223372036854775808 else 0) + e * 4503599627370496 + f % 4503599627370496) % 4503599627370496 + 4503599627370496 = f := by split <;> omega
  rw [this]
/-- Numbers that a pattern can tell, however great. -/
def Rep (y : Rat) : Prop := ∃ m k : Int, 0 ≤ m ∧ m < 9007199254740992 ∧ -1074 ≤ k ∧ y = (m : Rat) * pw k
theorem rep_zero : Rep 0 := ⟨0, 0, by decide, by decide, by decide, by simp⟩
theorem rep_pw {k : Int} (h : -1074 ≤ k) : Rep (pw k) := ⟨1, k, by decide, by decide, h, by simp⟩
theorem rep_mg {b : Int} (h : InU b) (hf : finiteM b = true) : Rep (mg b) := by
  refine ⟨(partsM b).1, (partsM b).2, (parts53 h).1, (parts53 h).2, ?_, rfl⟩
  rw [parts_eq h hf]
  have he : 0 ≤ expM b := by rw [expM_eq h]; omega
  split
  · decide
  · split
    · dsimp only; omega
    · dsimp only; omega
theorem Rep.scale {y : Rat} (h : Rep y) {k : Int} (hk : 0 ≤ k) : Rep (y * pw k) := by
  obtain ⟨m, e, h1, h2, h3, rfl⟩ := h
  exact ⟨m, e + k, h1, h2, by omega, by rw [pw_add]; grind⟩

/-- What rounding is, of a number that isn't below 0 (however great it be). -/
structure Rnd (X ρ : Rat) : Prop where
  rep : Rep ρ
  lo : ∀ y, Rep y → y ≤ X → y ≤ ρ
  hi : ∀ y, Rep y → X ≤ y → ρ ≤ y
  near : ab (ρ - X) ≤ pw (-53) * X ∨ ab (ρ - X) ≤ pw (-1075)
  half : ∀ k : Int, X < pw k → ab (ρ - X) ≤ pw (k - 54) ∨ ab (ρ - X) ≤ pw (-1075)
theorem Rnd.nn {X ρ : Rat} (h : Rnd X ρ) (hX : 0 ≤ X) : 0 ≤ ρ := h.lo 0 rep_zero hX
theorem Rnd.exact {X ρ : Rat} (h : Rnd X ρ) (hX : Rep X) : ρ = X := by
  have h1 := h.lo X hX Rat.le_refl
  have h2 := h.hi X hX Rat.le_refl
  grind
theorem Rnd.of_rep {X : Rat} (h : Rep X) (h0 : 0 ≤ X) : Rnd X X := ⟨h, fun _ _ h => h, fun _ _ h => h, .inr (by rw [show X - X = 0 by grind, ab_zero]; exact pw_nn _), fun _ _ => .inr (by rw [show X - X = 0 by grind, ab_zero]; exact pw_nn _)⟩
theorem Rnd.mono {X Y ρ σ : Rat} (h : Rnd X ρ) (h' : Rnd Y σ) (hXY : X ≤ Y) (hρ : ρ ≤ X ∨ Y ≤ σ ∨ True) : X ≤ Y → ρ ≤ σ ∨ X < ρ ∧ σ < Y := by
  intro _
  rcases Rat.le_total (a := ρ) (b := X) with h1 | h1
  · exact .inl (h'.lo ρ h.rep (Rat.le_trans h1 hXY))
  · rcases Rat.le_total (a := Y) (b := σ) with h2 | h2
    · exact .inl (h.hi σ h'.rep (Rat.le_trans hXY h2))
    · by_cases h3 : ρ ≤ σ
      · exact .inl h3
      · right
        constructor
        · by_cases h4 : ρ = X
          · exact absurd (h'.lo ρ h.rep (by grind)) h3
          · grind
        · by_cases h4 : σ = Y
          · exact absurd (h.hi σ h'.rep (by grind)) h3
          · grind

theorem pw_lit {n k : Int} (h : 0 ≤ n) (e : (2 : Int) ^ n.toNat = k) : pw n = (k : Rat) := by rw [pw_int h, e]
theorem pw52 (q : Int) : pw (q + 52) = (4503599627370496 : Rat) * pw q := by
  rw [Int.add_comm, pw_add, pw_lit (k := 4503599627370496) (by decide) (by decide)]; push_cast; rfl
theorem pw53 (q : Int) : pw (q + 53) = (9007199254740992 : Rat) * pw q := by
  rw [Int.add_comm, pw_add, pw_lit (k := 9007199254740992) (by decide) (by decide)]; push_cast; rfl

/-- The nearest on the grid of a number is what rounding is. -/
theorem Rnd.of_nr {X : Rat} {q m : Int} (h : Nr X (pw q) m) (hX : 0 ≤ X) (hq : -1074 ≤ q) (hm : m ≤ 9007199254740992) (hq2 : q = -1074 ∨ pw (q + 52) ≤ X) : Rnd X ((m : Rat) * pw q) := by
  have hm0 : 0 ≤ m := h.lo 0 (by simpa using hX)
  have hgrid : ∀ {y : Rat} {m' k : Int}, y = (m' : Rat) * pw k → q ≤ k → ∃ z : Int, y = (z : Rat) * pw q := fun {y m' k} hy hk => by
    refine ⟨m' * 2 ^ (k - q).toNat, ?_⟩
    rw [hy]
    have : pw k = pw (k - q) * pw q := by rw [← pw_add]; congr 1; omega
    rw [this, pw_int (n := k - q) (by omega)]
    push_cast
    grind
  refine ⟨?_, fun y hy hyX => ?_, fun y hy hyX => ?_, ?_, fun k hk => ?_⟩
  · rcases Int.lt_or_eq_of_le hm with h1 | h1
    · exact ⟨m, q, hm0, h1, hq, rfl⟩
    · refine ⟨4503599627370496, q + 1, by decide, by decide, by omega, ?_⟩
      rw [h1, pw_succ]
      push_cast
      grind
  · obtain ⟨m', k, a1, a2, a3, e⟩ := hy
    rcases Int.lt_or_le k q with h1 | h1
    · -- it is beneath all numbers of the grid from X's power of two on
      rcases hq2 with h2 | h2
      · omega
      · have h3 : (4503599627370496 : Int) ≤ m := h.lo _ (by
          have : pw (q + 52) = ((4503599627370496 : Int) : Rat) * pw q := by rw [pw52]; push_cast; rfl
          rw [← this]; exact h2)
        have h4 : y ≤ pw (q + 52) := by
          have h5 : (m' : Rat) ≤ (9007199254740992 : Rat) := ile (Int.le_of_lt a2)
          have h6 : pw (k + 53) ≤ pw (q + 52) := pw_le (by omega)
          have h7 := pw53 k
          have := mulr h5 (pw_nn k)
          grind
        have h5 := pw52 q
        have h6 : (4503599627370496 : Rat) ≤ (m : Rat) := ile h3
        have := mulr h6 (pw_nn q)
        grind
    · obtain ⟨z, hz⟩ := hgrid e h1
      rw [hz] at hyX ⊢
      have := h.lo z hyX
      exact mulr (by exact_mod_cast this) (pw_nn q)
  · obtain ⟨m', k, a1, a2, a3, e⟩ := hy
    have h1 : q ≤ k := by
      rcases hq2 with h2 | h2
      · omega
      · have h5 : (m' : Rat) < (9007199254740992 : Rat) := ilt a2
        have h7 := pw53 k
        have h8 := mulrl h5 (pw_pos k)
        have h9 : pw (q + 52) < pw (k + 53) := by grind
        have := pw_inv h9
        omega
    obtain ⟨z, hz⟩ := hgrid e h1
    rw [hz] at hyX ⊢
    have := h.hi z hyX
    exact mulr (by exact_mod_cast this) (pw_nn q)
  · have hn := h.near
    rcases hq2 with h2 | h2
    · right
      subst h2
      have : pw (-1074) = 2 * pw (-1075) := by rw [← pw_succ]; congr 1
      grind
    · left
      have h3 : pw q = 2 * (pw (-53) * pw (q + 52)) := by
        rw [← pw_add, ← pw_succ]; congr 1; omega
      have h4 := mull h2 (pw_nn (-53))
      grind
  · have hn := h.near
    rcases hq2 with h2 | h2
    · right
      subst h2
      have : pw (-1074) = 2 * pw (-1075) := by rw [← pw_succ]; congr 1
      grind
    · left
      have h3 := pw_inv (lelt h2 hk)
      have h4 : pw q ≤ pw (k - 54 + 1) := pw_le (by omega)
      rw [pw_succ] at h4
      grind
end Go.Proofs.YtcikcinkjbbnhaaDoor.M
