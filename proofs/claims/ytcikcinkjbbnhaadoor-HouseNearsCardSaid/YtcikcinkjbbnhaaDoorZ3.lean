/- The numbers of a reflection: tau times the square of v is near 2. -/
import Derived.Test.YtcikcinkjbbnhaaDoorZ2
set_option linter.unusedSimpArgs false
set_option linter.unusedVariables false
set_option maxHeartbeats 1000000
namespace Go.Proofs.YtcikcinkjbbnhaaDoor.M
open Go Go.Proofs

theorem Rt.nb {v ρ : Rat} {r : Int × Int} (h : Rt v r ρ) (hv : 0 ≤ v) (hρ : 0 ≤ ρ) : Nb 2 (ρ * ρ) v := by
  obtain ⟨X, x0, x1, x2⟩ := h.up
  obtain ⟨Y, y0, y1, y2⟩ := h.dn
  have u0 := u53_pos
  have u1 := u53_small
  change ρ ≤ (1 + u53) * X at x2
  change (1 - u53) * Y ≤ ρ at y2
  refine ⟨?_, ?_⟩
  · rw [pk, pk, pk, Rat.one_mul]
    have a := mul2 x2 x2 hρ (mulnn (by grind) x0)
    have b : (1 - u53) * (1 - u53) * (ρ * ρ) ≤ (1 - u53) * (1 - u53) * ((1 + u53) * X * ((1 + u53) * X)) := mull a (mulnn (by grind) (by grind))
    have c : (1 - u53) * (1 - u53) * ((1 + u53) * X * ((1 + u53) * X)) = (1 - u53 * u53) * (1 - u53 * u53) * (X * X) := by grind
    have e0 : 0 ≤ u53 * u53 := sqnn _
    have e1 : u53 * u53 ≤ 1 := by
      have := mul2 u1 u1 (Rat.le_of_lt u0) (by grind)
      exact Rat.le_trans this (by grind)
    have e : (1 - u53 * u53) * (1 - u53 * u53) * (X * X) ≤ 1 * (X * X) := by
      refine mulr ?_ (sqnn _)
      have := mul2 (show 1 - u53 * u53 ≤ 1 by grind) (show 1 - u53 * u53 ≤ 1 by grind) (by grind) (by grind)
      rwa [Rat.mul_one] at this
    grind
  · rw [pk, pk, pk, Rat.one_mul]
    have a := mul2 y2 y2 (mulnn (by grind) y0) hρ
    have b : (1 - u53) * (1 - u53) * v ≤ (1 - u53) * (1 - u53) * (Y * Y) := mull y1 (mulnn (by grind) (by grind))
    grind
/-- The square of the norm that is reckoned is near the sum of the squares. -/
theorem nrm_sq {us : List Int} {M : Rat} (hu : ∀ i, i < us.length → Fn (us.getD i 0) ∧ mg (us.getD i 0) ≤ M) (htop : ∃ i, i < us.length ∧ mg (us.getD i 0) = M) (h1 : 1 ≤ M) (h2 : M < 2) (hl : us.length ≤ 1000) :
    Nb (us.length + 4) (mg (nrm2M us) * mg (nrm2M us)) (sm (fun i => val (us.getD i 0) * val (us.getD i 0)) us.length) := by
  have hx : ∀ x ∈ us, Fn x := fun x hx => by
    obtain ⟨i, hi, rfl⟩ := mem_getD hx
    exact (hu i hi).1
  obtain ⟨k, hk, hkM⟩ := htop
  rcases power_val hx with ⟨_, _, h⟩ | ⟨hp, ⟨x, hxx, p1, p2⟩, p3, p4, p5⟩
  · exfalso
    have := h _ (getD_mem' hk)
    rw [hkM] at this
    grind
  have he : (powerM us).1 = 0 := by
    obtain ⟨i, hi, rfl⟩ := mem_getD hxx
    have a1 : pw (powerM us).1 < pw 1 := by rw [pw_one]; exact lelt p1 (lelt (hu i hi).2 h2)
    have a2 : pw 0 < pw ((powerM us).1 + 1) := by rw [pw_zero]; exact lelt h1 (by rw [← hkM]; exact p3 _ (getD_mem' hk))
    have := pw_inv a1
    have := pw_inv a2
    omega
  have hW : ∀ i, i < us.length → Fl (val (us.getD i 0)) ((unitL us 0).getD i 0) := fun i hi => by
    rw [unit_get (by decide) hi]
    have h0 := fl_scale (a := us.getD i 0) (n := -0) (hu i hi).1 (by decide) (by
      rw [show (-0 : Int) = 0 by decide, pw_zero, Rat.mul_one]
      refine Rat.le_trans (hu i hi).2 (Rat.le_trans (Rat.le_of_lt h2) ?_)
      rw [← pw_one]; exact pw_le (by decide))
    have e0 : (-0 : Int) = 0 := by decide
    rw [e0, pw_zero, Rat.mul_one] at h0
    exact h0
  have hWm : ∀ i, i < us.length → mg ((unitL us 0).getD i 0) = mg (us.getD i 0) := fun i hi => by
    rw [(hW i hi).exact (by rw [(hu i hi).1.ab]; exact (hu i hi).1.rep), (hu i hi).1.ab]
  have hlen := unitL_len us 0
  have hW2 : ∀ i, i < (unitL us 0).length → Fn ((unitL us 0).getD i 0) ∧ mg ((unitL us 0).getD i 0) ≤ 2 := fun i hi => by
    rw [hlen] at hi
    exact ⟨(hW i hi).fn, by rw [hWm i hi]; exact Rat.le_trans (hu i hi).2 (Rat.le_of_lt h2)⟩
  have hsum := sqs_all hW2 (by rw [hlen]; exact hl) ⟨k, by rw [hlen]; exact hk, by rw [hWm k hk, hkM]; exact h1⟩
  obtain ⟨s1, s2, s3, s4⟩ := sqs_val hW2 (by rw [hlen]; omega) us.length (by rw [hlen]; exact Nat.le_refl _)
  rw [hlen] at hsum
  have hsame : sm (fun i => val ((unitL us 0).getD i 0) * val ((unitL us 0).getD i 0)) us.length = sm (fun i => val (us.getD i 0) * val (us.getD i 0)) us.length := sm_congr _ fun i hi => by
    rw [vmul_nn (hW i hi).fn, vmul_nn (hu i hi).1, hWm i hi]
  rw [hsame] at hsum
  have hneg : negM (sqsS (unitL us 0) us.length).1 = false := by
    cases hn : negM (sqsS (unitL us 0) us.length).1 with
    | false => rfl
    | true =>
      exfalso
      have e : val (sqsS (unitL us 0) us.length).1 = -mg (sqsS (unitL us 0) us.length).1 := by unfold val; rw [hn]; simp [sgn, Rat.neg_mul]
      have hS1 : 1 ≤ mg (sqsS (unitL us 0) us.length).1 := by
        obtain ⟨g1, g2⟩ := s4 k hk
        refine Rat.le_trans ?_ g1
        refine g2.dn 1 (rep_int (k := 1) (by decide)) ?_
        rw [ab_mul, (hW k hk).fn.ab, hWm k hk, hkM]
        have := mul2 h1 h1 (by decide) (Rat.le_trans (by decide) h1)
        rw [Rat.mul_one] at this; exact this
      rw [s2] at e
      grind
  obtain ⟨ρ, hρ⟩ := sqrt_val s1.inu s1.fin hneg
  have h0 : 0 ≤ ρ := hρ.lo 0 rep_zero Rat.le_refl (by rw [Rat.mul_zero]; exact s1.mg0)
  have hr : Fn (sqrtM (sqsS (unitL us 0) us.length).1).1 := ⟨hρ.inu, hρ.fin⟩
  have hrv : val (sqrtM (sqsS (unitL us 0) us.length).1).1 = ρ := by unfold val; rw [hρ.neg, hρ.mag]; simp [sgn]
  have hρ2 : ρ ≤ ((2 * (us.length : Int) : Int) : Rat) := by
    refine hρ.hi _ (rep_int (by omega)) (ile (a := 0) (by omega)) (Rat.le_trans s3 ?_)
    rw [← Rat.intCast_mul]
    refine ile ?_
    have h3 : (2 : Int) * us.length * 2 ≤ 2 * us.length * (2 * us.length) := Int.mul_le_mul_of_nonneg_left (by omega) (by omega)
    omega
  have hb : ((2 * (us.length : Int) : Int) : Rat) ≤ pw 1023 := by
    have e : pw 30 = ((1073741824 : Int) : Rat) := pw_lit (k := 1073741824) (by decide) (by decide)
    refine Rat.le_trans (ile (show 2 * (us.length : Int) ≤ 1073741824 by omega)) ?_
    rw [← e]; exact pw_le (by decide)
  have hfin := fl_scale (n := 0) hr (by decide) (by rw [pw_zero, Rat.mul_one, hρ.mag]; exact Rat.le_trans hρ2 hb)
  rw [pw_zero, Rat.mul_one, hrv] at hfin
  have hex := hfin.exact (by rw [ab_of h0]; exact hρ.rep)
  rw [ab_of h0] at hex
  have hnr : nrm2M us = (scaleM (sqrtM (sqsS (unitL us 0) us.length).1).1 0).1 := by
    unfold nrm2M
    rw [if_pos hp, he]
  rw [hnr, hex]
  have := (hρ.nb s1.mg0 h0).trans hsum
  rwa [show 2 + (us.length + 2) = us.length + 4 by omega] at this
end Go.Proofs.YtcikcinkjbbnhaaDoor.M
