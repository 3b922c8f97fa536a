/- The bounds of a reflection's numbers that hold just so. -/
import Derived.Test.YtcikcinkjbbnhaaDoorZ4
import Derived.Test.YtcikcinkjbbnhaaDoorZ5
set_option linter.unusedSimpArgs false
set_option linter.unusedVariables false
set_option maxHeartbeats 1000000
namespace Go.Proofs.YtcikcinkjbbnhaaDoor.M
open Go Go.Proofs

/-- A number between 1 and 2 stands on the grid. -/
theorem rep_grid {x : Rat} (h : Rep x) (h1 : 1 ≤ x) : ∃ N : Int, x = (N : Rat) * pw (-52) := by
  obtain ⟨m, k, a1, a2, a3, rfl⟩ := h
  have hk : -52 ≤ k := by
    rcases Int.lt_or_le k (-52) with h | h
    · exfalso
      have h5 : (m : Rat) < (9007199254740992 : Rat) := ilt a2
      have h8 := mulrl h5 (pw_pos k)
      have h7 := pw53 k
      have h9 : pw (k + 53) ≤ pw 0 := pw_le (by omega)
      rw [pw_zero] at h9
      grind
    · exact h
  refine ⟨m * 2 ^ (k + 52).toNat, ?_⟩
  rw [Rat.intCast_mul, ← pw_int (n := k + 52) (by omega), Rat.mul_assoc, ← pw_add]
  congr 2
  omega
theorem grid_gap {x y : Rat} (hx : Rep x) (hy : Rep y) (h1 : 1 ≤ x) (h2 : 1 ≤ y) (h : y < x) : y + pw (-52) ≤ x := by
  obtain ⟨M, rfl⟩ := rep_grid hx h1
  obtain ⟨N, rfl⟩ := rep_grid hy h2
  have h3 : (N : Int) < M := ilt' (mulcl h (pw_pos _))
  have h4 : ((N + 1 : Int) : Rat) ≤ (M : Rat) := ile (by omega)
  have h5 := mulr h4 (pw_nn (-52))
  rw [Rat.intCast_add, Rat.add_mul] at h5
  have e : (((1 : Int)) : Rat) * pw (-52) = pw (-52) := by rw [show ((1 : Int) : Rat) = 1 from rfl, Rat.one_mul]
  rw [e] at h5
  exact h5
theorem root_ge {v ρ x : Rat} {r : Int × Int} {q : Int} (h : Rt v r ρ) (hx : Rep x) (h1 : 1 ≤ x) (h2 : x < 2) (hρ : 1 ≤ ρ) (hq : Fl (x * x) q) (hv : mg q ≤ v) : x ≤ ρ := by
  rcases Rat.le_total (a := x) (b := ρ) with hle | hle
  · exact hle
  by_cases he : ρ = x
  · rw [he]; exact Rat.le_refl
  exfalso
  have hlt : ρ < x := lt_of_le_ne hle he
  have hgap := grid_gap hx h.rep h1 hρ hlt
  obtain ⟨X, x0, x1, x2⟩ := h.dnR
  have hXx : X < x := by
    rcases Rat.le_total (a := x) (b := X) with h3 | h3
    · exfalso
      have := x2.lo x hx h3
      grind
    · by_cases e : X = x
      · exfalso
        have := x2.lo x hx (reqle e.symm)
        grind
      · exact lt_of_le_ne h3 e
  have u0 := u53_pos
  have u1 := u53_small
  have e52 : pw (-52) = 2 * u53 := by
    unfold u53
    rw [← pw_succ]; rfl
  have hXr : X ≤ ρ + u53 := by
    have h3 := x2.half 1 (by rw [pw_one]; grind)
    have h4 : pw (-1075) ≤ u53 := pw_le (by decide)
    have h5 : pw (1 - 54) = u53 := rfl
    rw [h5] at h3
    rcases h3 with h3 | h3
    · have := (ab_le.1 h3).2; grind
    · have := (ab_le.1 h3).2; grind
  have hXu : X ≤ x - u53 := by rw [e52] at hgap; grind
  have hxx0 : 0 ≤ x * x := sqnn x
  have hvX : v ≤ (x - u53) * (x - u53) := Rat.le_trans x1 (mul2 hXu hXu x0 (by grind))
  have hqv : val q = mg q := hq.nn hxx0
  by_cases h4 : x * x < 2
  · have h5 := hq.half 1 (by rw [ab_of hxx0, pw_one]; exact h4)
    have h6 : pw (-1075) ≤ u53 := pw_le (by decide)
    have h7 : pw (1 - 54) = u53 := rfl
    rw [h7, hqv] at h5
    have h8 : x * x - u53 ≤ mg q := by
      rcases h5 with h5 | h5
      · have := (ab_le.1 h5).2; grind
      · have := (ab_le.1 h5).2; grind
    have h9 : u53 * 1 ≤ u53 * x := mull h1 (Rat.le_of_lt u0)
    have h10 : u53 * u53 ≤ 1 / 1000000000000 * u53 := mulr u1 (Rat.le_of_lt u0)
    grind
  · have hx4 : x * x < 4 := by
      have := mulrl h2 (show 0 < x by grind)
      grind
    have h5 := hq.half 2 (by
      rw [ab_of hxx0, pw_lit (n := 2) (k := 4) (by decide) (by decide)]; exact hx4)
    have h6 : pw (-1075) ≤ 2 * u53 := by
      have : pw (-1075) ≤ u53 := pw_le (by decide)
      grind
    have h7 : pw (2 - 54) = 2 * u53 := by rw [← e52]; rfl
    rw [h7, hqv] at h5
    have h8 : x * x - 2 * u53 ≤ mg q := by
      rcases h5 with h5 | h5
      · have := (ab_le.1 h5).2; grind
      · have := (ab_le.1 h5).2; grind
    -- x is greater than 1.1
    have h11 : 11 / 10 ≤ x := by
      rcases Rat.le_total (a := 11 / 10) (b := x) with h | h
      · exact h
      · exfalso
        have := mul2 h h (by grind) (by grind)
        grind
    have h9 : u53 * (11 / 10) ≤ u53 * x := mull h11 (Rat.le_of_lt u0)
    have h10 : u53 * u53 ≤ 1 / 1000000000000 * u53 := mulr u1 (Rat.le_of_lt u0)
    grind
end Go.Proofs.YtcikcinkjbbnhaaDoor.M

/- All that is known of a reflection's numbers. -/
set_option linter.unusedSimpArgs false
set_option linter.unusedVariables false
set_option maxHeartbeats 1000000
namespace Go.Proofs.YtcikcinkjbbnhaaDoor.M
open Go Go.Proofs

/-- The norm that is reckoned isn't beneath any of the numbers. -/
theorem nrm_ge {us : List Int} {M : Rat} (hu : ∀ i, i < us.length → Fn (us.getD i 0) ∧ mg (us.getD i 0) ≤ M) (htop : ∃ i, i < us.length ∧ mg (us.getD i 0) = M) (h1 : 1 ≤ M) (h2 : M < 2) (hl : us.length ≤ 1000) :
    ∀ i, i < us.length → mg (us.getD i 0) ≤ mg (nrm2M us) := by
  obtain ⟨_, _, hnu1, _⟩ := nrm_val hu htop h1 h2 (by omega)
  have hx : ∀ x ∈ us, Fn x := fun x hx => by
    obtain ⟨i, hi, rfl⟩ := mem_getD hx
    exact (hu i hi).1
  obtain ⟨k, hk, hkM⟩ := htop
  rcases power_val hx with ⟨_, _, h⟩ | ⟨hp, ⟨x, hxx, p1, p2⟩, p3, p4, p5⟩
  · exfalso
    have := h _ (getD_mem' hk)
    rw [hkM] at this
    grind
  have he : (powerM us).1 = 0 := by
    obtain ⟨i, hi, rfl⟩ := mem_getD hxx
    have a1 : pw (powerM us).1 < pw 1 := by rw [pw_one]; exact lelt p1 (lelt (hu i hi).2 h2)
    have a2 : pw 0 < pw ((powerM us).1 + 1) := by rw [pw_zero]; exact lelt h1 (by rw [← hkM]; exact p3 _ (getD_mem' hk))
    have := pw_inv a1
    have := pw_inv a2
    omega
  have hW : ∀ i, i < us.length → Fl (val (us.getD i 0)) ((unitL us 0).getD i 0) := fun i hi => by
    rw [unit_get (by decide) hi]
    have h0 := fl_scale (a := us.getD i 0) (n := -0) (hu i hi).1 (by decide) (by
      rw [show (-0 : Int) = 0 by decide, pw_zero, Rat.mul_one]
      refine Rat.le_trans (hu i hi).2 (Rat.le_trans (Rat.le_of_lt h2) ?_)
      rw [← pw_one]; exact pw_le (by decide))
    have e0 : (-0 : Int) = 0 := by decide
    rw [e0, pw_zero, Rat.mul_one] at h0
    exact h0
  have hWm : ∀ i, i < us.length → mg ((unitL us 0).getD i 0) = mg (us.getD i 0) := fun i hi => by
    rw [(hW i hi).exact (by rw [(hu i hi).1.ab]; exact (hu i hi).1.rep), (hu i hi).1.ab]
  have hlen := unitL_len us 0
  have hW2 : ∀ i, i < (unitL us 0).length → Fn ((unitL us 0).getD i 0) ∧ mg ((unitL us 0).getD i 0) ≤ 2 := fun i hi => by
    rw [hlen] at hi
    exact ⟨(hW i hi).fn, by rw [hWm i hi]; exact Rat.le_trans (hu i hi).2 (Rat.le_of_lt h2)⟩
  obtain ⟨s1, s2, s3, s4⟩ := sqs_val hW2 (by rw [hlen]; omega) us.length (by rw [hlen]; exact Nat.le_refl _)
  have hneg : negM (sqsS (unitL us 0) us.length).1 = false := by
    cases hn : negM (sqsS (unitL us 0) us.length).1 with
    | false => rfl
    | true =>
      exfalso
      have e : val (sqsS (unitL us 0) us.length).1 = -mg (sqsS (unitL us 0) us.length).1 := by unfold val; rw [hn]; simp [sgn, Rat.neg_mul]
      have hS1 : 1 ≤ mg (sqsS (unitL us 0) us.length).1 := by
        obtain ⟨g1, g2⟩ := s4 k hk
        refine Rat.le_trans ?_ g1
        refine g2.dn 1 (rep_int (k := 1) (by decide)) ?_
        rw [ab_mul, (hW k hk).fn.ab, hWm k hk, hkM]
        have := mul2 h1 h1 (by decide) (Rat.le_trans (by decide) h1)
        rw [Rat.mul_one] at this; exact this
      rw [s2] at e
      grind
  obtain ⟨ρ, hρ⟩ := sqrt_val s1.inu s1.fin hneg
  have h0 : 0 ≤ ρ := hρ.lo 0 rep_zero Rat.le_refl (by rw [Rat.mul_zero]; exact s1.mg0)
  have hr : Fn (sqrtM (sqsS (unitL us 0) us.length).1).1 := ⟨hρ.inu, hρ.fin⟩
  have hrv : val (sqrtM (sqsS (unitL us 0) us.length).1).1 = ρ := by unfold val; rw [hρ.neg, hρ.mag]; simp [sgn]
  have hρ2 : ρ ≤ ((2 * (us.length : Int) : Int) : Rat) := by
    refine hρ.hi _ (rep_int (by omega)) (ile (a := 0) (by omega)) (Rat.le_trans s3 ?_)
    rw [← Rat.intCast_mul]
    refine ile ?_
    have h3 : (2 : Int) * us.length * 2 ≤ 2 * us.length * (2 * us.length) := Int.mul_le_mul_of_nonneg_left (by omega) (by omega)
    omega
  have hb : ((2 * (us.length : Int) : Int) : Rat) ≤ pw 1023 := by
    have e : pw 30 = ((1073741824 : Int) : Rat) := pw_lit (k := 1073741824) (by decide) (by decide)
    refine Rat.le_trans (ile (show 2 * (us.length : Int) ≤ 1073741824 by omega)) ?_
    rw [← e]; exact pw_le (by decide)
  have hfin := fl_scale (n := 0) hr (by decide) (by rw [pw_zero, Rat.mul_one, hρ.mag]; exact Rat.le_trans hρ2 hb)
  rw [pw_zero, Rat.mul_one, hrv] at hfin
  have hex := hfin.exact (by rw [ab_of h0]; exact hρ.rep)
  rw [ab_of h0] at hex
  have hnr : nrm2M us = (scaleM (sqrtM (sqsS (unitL us 0) us.length).1).1 0).1 := by
    unfold nrm2M
    rw [if_pos hp, he]
  rw [hnr, hex] at hnu1 ⊢
  intro i hi
  rcases Rat.le_total (a := mg (us.getD i 0)) (b := 1) with h | h
  · exact Rat.le_trans h hnu1
  · obtain ⟨g1, g2⟩ := s4 i hi
    have hsq : val ((unitL us 0).getD i 0) * val ((unitL us 0).getD i 0) = mg (us.getD i 0) * mg (us.getD i 0) := by rw [vmul_nn (hW i hi).fn, hWm i hi]
    rw [hsq] at g2
    exact root_ge hρ (hu i hi).1.rep h (lelt (hu i hi).2 h2) hnu1 g2 g1
/-- All that is known of a reflection's numbers. -/
structure Gf (xs : List Int) (n : Nat) (σ a0 nu d D M : Rat) : Prop where
  len : xs.length = n + 1
  un : Un xs (genU xs) M
  sg : σ = 1 ∨ σ = -1
  a : val ((genU xs).getD 0 0) = σ * a0
  az : 0 ≤ a0
  an : a0 ≤ nu
  nu1 : 1 ≤ nu
  nub : nu ≤ 10000
  be : val (genBeta xs) = -(σ * nu)
  fb : Fn (genBeta xs)
  dd : mg (genD xs) = d
  dv : val (genD xs) = σ * d
  nd : nu ≤ d
  DD : a0 + nu = D
  nbD : Nb 1 d D
  nbT : Nb 2 (val (genT xs)) (D / nu)
  t1 : 1 ≤ val (genT xs)
  t2 : val (genT xs) ≤ 2
  flv : ∀ i, i < n → Fl (val ((genU xs).getD (i + 1) 0) / val (genD xs)) ((genV xs).getD (i + 1) 0)
  v1 : ∀ i, i < n + 1 → mg ((genV xs).getD i 0) ≤ 1
  sq : Nb (n + 1 + 4) (nu * nu) (sm (fun i => val ((genU xs).getD i 0) * val ((genU xs).getD i 0)) (n + 1))
theorem gen_full {xs : List Int} (hx : ∀ x ∈ xs, Fn x) (hl : xs.length ≤ 1000) (hB : genB xs = false) : ∃ n σ a0 nu d D M, Gf xs n σ a0 nu d D M := by
  have hp : (powerM xs).2 = true := by
    unfold genB at hB
    cases h : (powerM xs).2
    · rw [h] at hB; simp at hB
    · rfl
  have ht : (powerM xs.tail).2 = true := by
    unfold genB at hB
    cases h : (powerM xs.tail).2
    · rw [h] at hB; simp at hB
    · rfl
  obtain ⟨M, hU⟩ := unit_val hx hp
  change Un xs (genU xs) M at hU
  obtain ⟨n, hn⟩ : ∃ n, xs.length = n + 1 := by
    cases xs with
    | nil => exfalso; revert hp; decide
    | cons x r => exact ⟨r.length, rfl⟩
  have hul : (genU xs).length = n + 1 := hU.len.trans hn
  have hu : ∀ i, i < (genU xs).length → Fn ((genU xs).getD i 0) ∧ mg ((genU xs).getD i 0) ≤ M := fun i hi => by
    rw [hU.len] at hi
    exact ⟨(hU.fl i hi).fn, hU.le i hi⟩
  have htop : ∃ i, i < (genU xs).length ∧ mg ((genU xs).getD i 0) = M := by
    obtain ⟨i, hi, h⟩ := hU.top
    exact ⟨i, by rw [hU.len]; exact hi, h⟩
  obtain ⟨n1, n2, n3, n4⟩ := nrm_val hu htop hU.lo hU.hi (by omega)
  have hsq := nrm_sq hu htop hU.lo hU.hi (by omega)
  have hge := nrm_ge hu htop hU.lo hU.hi (by omega)
  have hM2 : M ≤ 2 := Rat.le_of_lt hU.hi
  generalize hue : genU xs = us at hul hu htop n1 n2 n3 n4 hsq hge
  obtain ⟨nu, hnu⟩ : ∃ nu, mg (nrm2M us) = nu := ⟨_, rfl⟩
  rw [hnu] at n2 n3 n4 hsq hge
  have hnu0 : 0 < nu := by grind
  have hnub : nu ≤ 10000 := Rat.le_trans n4 (ile (b := 10000) (by omega))
  have hus : ∀ i, i < n + 1 → Fn (us.getD i 0) ∧ mg (us.getD i 0) ≤ 2 := fun i hi => ⟨(hu i (by omega)).1, Rat.le_trans (hu i (by omega)).2 hM2⟩
  obtain ⟨f0, b0⟩ := hus 0 (by omega)
  obtain ⟨a0, ha0⟩ : ∃ a0, mg (us.getD 0 0) = a0 := ⟨_, rfl⟩
  rw [ha0] at b0
  have ha00 : 0 ≤ a0 := by rw [← ha0]; exact f0.mg0
  have han : a0 ≤ nu := by rw [← ha0]; exact hge 0 (by omega)
  -- beta
  have hbeta : Fn (genBeta xs) ∧ mg (genBeta xs) = nu ∧ (val (us.getD 0 0) = -a0 ∧ val (genBeta xs) = nu ∨ val (us.getD 0 0) = a0 ∧ val (genBeta xs) = -nu) := by
    unfold genBeta
    rw [hue]
    cases hneg : negM (us.getD 0 0)
    · rw [if_neg (by decide)]
      refine ⟨n1.flip, by rw [flip_mg n1.inu n1.fin, hnu], .inr ⟨?_, by rw [flip_val' n1, n2]⟩⟩
      unfold val; rw [hneg, ha0]; simp [sgn]
    · rw [if_pos rfl]
      refine ⟨n1, hnu, .inl ⟨?_, n2⟩⟩
      unfold val; rw [hneg, ha0]; simp [sgn, Rat.neg_mul]
  obtain ⟨fb, mb, hab⟩ := hbeta
  generalize hbe : genBeta xs = be at fb mb hab
  have hD : ab (val (us.getD 0 0) - val be) = a0 + nu := by
    rcases hab with ⟨e1, e2⟩ | ⟨e1, e2⟩
    · rw [e1, e2, show -a0 - nu = -(a0 + nu) by grind, ab_neg, ab_of (by grind)]
    · rw [e1, e2, show a0 - -nu = a0 + nu by grind, ab_of (by grind)]
  obtain ⟨D, hDe⟩ : ∃ D, a0 + nu = D := ⟨_, rfl⟩
  rw [hDe] at hD
  have hD1 : 1 ≤ D := by grind
  have hDb : D ≤ 20000 := by grind
  have flD : Fl (val (us.getD 0 0) - val be) (genD xs) := by
    unfold genD
    rw [hue, hbe]
    exact fl_sub f0 fb (by rw [hD]; exact Rat.le_trans hDb big20)
  have nbD := flD.nba (by rw [hD]; exact pw_small (by grind))
  rw [hD] at nbD
  obtain ⟨d, hd⟩ : ∃ d, mg (genD xs) = d := ⟨_, rfl⟩
  rw [hd] at nbD
  have u0 := u53_pos
  have u1 := u53_small
  have hd1 : 1 / 2 ≤ d := by
    have h1 := nbD.ge
    have h2 := mull hD1 (Rat.le_of_lt (pk_pos 1))
    have h3 := pk_half (k := 1) (by decide)
    grind
  have hd0 : d ≠ 0 := by grind
  -- tau
  have hE : ab (val be - val (us.getD 0 0)) = D := by rw [← hD]; exact ab_comm _ _
  have flE := fl_sub fb f0 (by rw [hE]; exact Rat.le_trans hDb big20)
  have nbE := flE.nba (by rw [hE]; exact pw_small (by grind))
  rw [hE] at nbE
  have hEsgn : val (addM be (flipM (us.getD 0 0))).1 / val be = mg (addM be (flipM (us.getD 0 0))).1 / nu := by
    have hcan : ∀ x : Rat, -x / -nu = x / nu := fun x => by
      have hnn : nu ≠ 0 := by grind
      have hnn2 : -nu ≠ 0 := by grind
      have e1 : -x / -nu * -nu = -x := Rat.div_mul_cancel hnn2
      have e2 : x / nu * nu = x := Rat.div_mul_cancel hnn
      have e3 : (-x / -nu - x / nu) * nu = 0 := by grind
      rcases Rat.mul_eq_zero.1 e3 with h | h
      · grind
      · exact absurd h hnn
    rcases hab with ⟨e1, e2⟩ | ⟨e1, e2⟩
    · rcases flE.sign with ⟨s, _⟩ | ⟨_, s⟩ | s
      · rw [s, e2]
      · rw [e1, e2] at s; exfalso; grind
      · rw [e1, e2] at s; exfalso; grind
    · rcases flE.sign with ⟨_, s⟩ | ⟨s, _⟩ | s
      · rw [e1, e2] at s; exfalso; grind
      · rw [s, e2, hcan]
      · rw [e1, e2] at s; exfalso; grind
  have htau : genT xs = (divM (addM be (flipM (us.getD 0 0))).1 be).1 := by
    unfold genT
    rw [if_neg (by rw [hB]; decide)]
    unfold genTau
    rw [hue, hbe]
  generalize (addM be (flipM (us.getD 0 0))).1 = E at flE nbE hEsgn htau
  have hE1 : 1 / 2 ≤ mg E := by
    have h1 := nbE.ge
    have h2 := mull hD1 (Rat.le_of_lt (pk_pos 1))
    have h3 := pk_half (k := 1) (by decide)
    grind
  have hEb : mg E ≤ 40000 := by
    have h1 := nbE.le
    have h2 := mulr (pk_half (k := 1) (by decide)) (show 0 ≤ mg E by grind)
    grind
  have hq0 : 0 ≤ mg E / nu := div_nn (by grind) hnu0
  have hqb : mg E / nu ≤ 40000 := Rat.le_trans (div_le_of (by grind) n3) hEb
  have flT := fl_div flE.fn fb (by rw [mb]; grind) (by rw [mb]; exact Rat.le_trans hqb big40)
  rw [hEsgn] at flT
  have hqlo : 1 / 1000000 ≤ mg E / nu := by
    have h1 : mg E / nu * nu = mg E := Rat.div_mul_cancel (by grind)
    have h2 : mg E / nu * nu ≤ mg E / nu * 10000 := mull hnub hq0
    grind
  have nbT := flT.nba (by rw [ab_of hq0]; exact pw_small hqlo)
  rw [ab_of hq0] at nbT
  have hvT : val (genT xs) = mg (genT xs) := by rw [htau]; exact flT.nn hq0
  rw [← htau] at flT nbT
  have hT : Nb 2 (mg (genT xs)) (D / nu) := by
    have := nbT.trans (nbE.div (Nb.refl nu) flE.fn.mg0 (by grind) hnu0 hnu0)
    exact this
  -- the quotients
  have hV : genV xs = genL xs n := by
    unfold genV
    rw [if_neg (by rw [hB]; decide), hn]; rfl
  have hv0 : (genV xs).getD 0 0 = 4607182418800017408 := by rw [hV]; rfl
  have hvi : ∀ i, i < n → (genV xs).getD (i + 1) 0 = (divM (us.getD (i + 1) 0) (genD xs)).1 := fun i hi => by
    rw [hV, genL, hue, List.getD_cons_succ]
    simp [List.getD_eq_getElem?_getD, hi, Nat.add_comm]
  have hqi : ∀ i, i < n → 0 ≤ mg (us.getD (i + 1) 0) / d ∧ mg (us.getD (i + 1) 0) / d ≤ 4 := fun i hi => by
    obtain ⟨g, g2⟩ := hus (i + 1) (by omega)
    have h1 : mg (us.getD (i + 1) 0) / d * d = mg (us.getD (i + 1) 0) := Rat.div_mul_cancel hd0
    have h0 := div_nn g.mg0 (show 0 < d by grind)
    refine ⟨h0, ?_⟩
    have h2 := mull hd1 h0
    grind
  have hflv : ∀ i, i < n → Fl (val (us.getD (i + 1) 0) / val (genD xs)) ((genV xs).getD (i + 1) 0) := fun i hi => by
    rw [hvi i hi]
    have := (hqi i hi).2
    refine fl_div (hus (i + 1) (by omega)).1 flD.fn (by rw [hd]; exact hd0) (by rw [hd]; exact Rat.le_trans this (big30 (k := 4) (by decide)))
  have hrnu : Rep nu := by rw [← hnu]; exact n1.rep
  have hndd : nu ≤ d := by
    rw [← hd]
    exact flD.dn nu hrnu (by rw [hD]; grind)
  have hEn : nu ≤ mg E := flE.dn nu hrnu (by rw [hE]; grind)
  have hE2 : mg E ≤ nu * pw 1 := flE.up _ (hrnu.scale (by decide)) (by rw [hE, pw_one]; grind)
  rw [pw_one] at hE2
  have hnn : nu ≠ 0 := by grind
  have hquo : mg E / nu * nu = mg E := Rat.div_mul_cancel hnn
  have hq1 : 1 ≤ mg E / nu := mulc (by rw [hquo, Rat.one_mul]; exact hEn) hnu0
  have hq2 : mg E / nu ≤ 2 := mulc (by rw [hquo]; grind) hnu0
  have ht1 : 1 ≤ mg (genT xs) := flT.dn 1 (rep_int (k := 1) (by decide)) (by rw [ab_of hq0]; exact hq1)
  have ht2 : mg (genT xs) ≤ 2 := flT.up 2 (rep_int (k := 2) (by decide)) (by rw [ab_of hq0]; exact hq2)
  have hv1 : ∀ i, i < n + 1 → mg ((genV xs).getD i 0) ≤ 1 := fun i hi => by
    cases i with
    | zero => rw [hv0, mg_one]; exact Rat.le_refl
    | succ i =>
      refine (hflv i (by omega)).up 1 (rep_int (k := 1) (by decide)) ?_
      rw [ab_div (hus (i + 1) (by omega)).1 flD.fn (by rw [hd]; exact hd0), hd]
      have h1 : mg (us.getD (i + 1) 0) / d * d = mg (us.getD (i + 1) 0) := Rat.div_mul_cancel hd0
      exact mulc (by rw [h1, Rat.one_mul]; exact Rat.le_trans (hge (i + 1) (by omega)) hndd) (show 0 < d by grind)
  rw [hul] at hsq
  have hsgn : ∃ σ : Rat, (σ = 1 ∨ σ = -1) ∧ val (us.getD 0 0) = σ * a0 ∧ val be = -(σ * nu) ∧ val (genD xs) = σ * d := by
    rcases hab with ⟨e1, e2⟩ | ⟨e1, e2⟩
    · refine ⟨-1, .inr rfl, by rw [e1]; grind, by rw [e2]; grind, ?_⟩
      rcases flD.sign with ⟨_, s⟩ | ⟨s, _⟩ | s
      · rw [e1, e2] at s; exfalso; grind
      · rw [s, hd]; grind
      · rw [e1, e2] at s; exfalso; grind
    · refine ⟨1, .inl rfl, by rw [e1]; grind, by rw [e2]; grind, ?_⟩
      rcases flD.sign with ⟨s, _⟩ | ⟨_, s⟩ | s
      · rw [s, hd]; grind
      · rw [e1, e2] at s; exfalso; grind
      · rw [e1, e2] at s; exfalso; grind
  obtain ⟨σ, g1, g2, g3, g4⟩ := hsgn
  refine ⟨n, σ, a0, nu, d, D, M, hn, hU, g1, ?_, ha00, han, n3, hnub, ?_, ?_, hd, g4, hndd, hDe, nbD, ?_, ?_, ?_, ?_, hv1, ?_⟩
  · rw [hue]; exact g2
  · rw [hbe]; exact g3
  · rw [hbe]; exact fb
  · rw [hvT]; exact hT
  · rw [hvT]; exact ht1
  · rw [hvT]; exact ht2
  · rw [hue]; exact hflv
  · rw [hue]; exact hsq
end Go.Proofs.YtcikcinkjbbnhaaDoor.M

/- A list reflected is nearly its first number alone: the plain law. -/
set_option linter.unusedSimpArgs false
set_option linter.unusedVariables false
set_option maxHeartbeats 1000000
namespace Go.Proofs.YtcikcinkjbbnhaaDoor.M
open Go Go.Proofs

/-- The root of a sum of squares is at most so many times another one. -/
structure Nm (f : Nat → Rat) (n : Nat) (e S : Rat) : Prop where
  e0 : 0 ≤ e
  le : sm (fun i => f i * f i) n ≤ e * e * S
theorem Nm.add {f g : Nat → Rat} {n : Nat} {a b S : Rat} (hf : Nm f n a S) (hg : Nm g n b S) (hS : 0 ≤ S) : Nm (fun i => f i + g i) n (a + b) S := by
  refine ⟨by have := hf.e0; have := hg.e0; grind, ?_⟩
  have h1 := cauchy f g n
  have h2 := mul2 hf.le hg.le (sm_sq_nn f n) (mulnn (mulnn hg.e0 hg.e0) hS)
  have h3 : sm (fun i => f i * g i) n ≤ a * b * S := by
    refine sq_le (mulnn (mulnn hf.e0 hg.e0) hS) ?_
    refine Rat.le_trans (Rat.le_trans h1 h2) (reqle ?_)
    grind
  have h4 : sm (fun i => (f i + g i) * (f i + g i)) n = sm (fun i => f i * f i) n + (2 * sm (fun i => f i * g i) n + sm (fun i => g i * g i) n) := by
    rw [← sm_mul, ← sm_add, ← sm_add]
    exact sm_congr n fun i _ => by grind
  rw [h4]
  have h5 := hf.le
  have h6 := hg.le
  grind
theorem Nm.mono {f : Nat → Rat} {n : Nat} {a b S : Rat} (h : Nm f n a S) (hab : a ≤ b) (hS : 0 ≤ S) : Nm f n b S :=
  ⟨Rat.le_trans h.e0 hab, Rat.le_trans h.le (mulr (mul2 hab hab h.e0 (Rat.le_trans h.e0 hab)) hS)⟩
theorem Nm.congr {f g : Nat → Rat} {n : Nat} {a S : Rat} (h : Nm f n a S) (e : ∀ i, i < n → g i = f i) : Nm g n a S :=
  ⟨h.e0, by rw [sm_congr n (fun i hi => by rw [e i hi])]; exact h.le⟩
theorem eta_tiny : 1000000000000 * eta ≤ u53 * u53 := by
  unfold eta u53
  have h : (1000000000000 : Rat) ≤ pw 40 := by rw [pw_lit (n := 40) (k := 1099511627776) (by decide) (by decide)]; exact ile (by decide)
  refine Rat.le_trans (mulr h (pw_nn _)) ?_
  rw [← pw_add, ← pw_add]
  exact pw_le (by decide)
theorem sgsq {σ : Rat} (h : σ = 1 ∨ σ = -1) : σ * σ = 1 := by rcases h with h | h <;> rw [h] <;> grind
/-- What a quotient's sign is. -/
theorem quo_sign {σ d : Rat} {x r : Int} (hσ : σ = 1 ∨ σ = -1) (hd : 0 < d) (hx : Fn x) (h : Fl (val x / (σ * d)) r) : σ * val r * val x = mg r * mg x := by
  have hsd : σ * d ≠ 0 := by rcases hσ with e | e <;> rw [e] <;> grind
  have hq : val x / (σ * d) * (σ * d) = val x := Rat.div_mul_cancel hsd
  generalize val x / (σ * d) = y at h hq
  rcases val_ab hx with e | e
  · rcases hσ with s | s
    · rw [s] at hq ⊢
      rcases h.sign with ⟨a, b⟩ | ⟨a, b⟩ | b
      · rw [a, e]; grind
      · have : 0 ≤ -y * d := mulnn (by grind) (Rat.le_of_lt hd)
        have h0 : mg x = 0 := by have := hx.mg0; grind
        rw [e, h0]; grind
      · have h0 : mg x = 0 := by rw [b] at hq; grind
        rw [e, h0]; grind
    · rw [s] at hq ⊢
      rcases h.sign with ⟨a, b⟩ | ⟨a, b⟩ | b
      · have : 0 ≤ y * d := mulnn b (Rat.le_of_lt hd)
        have h0 : mg x = 0 := by have := hx.mg0; grind
        rw [e, h0]; grind
      · rw [a, e]; grind
      · have h0 : mg x = 0 := by rw [b] at hq; grind
        rw [e, h0]; grind
  · rcases hσ with s | s
    · rw [s] at hq ⊢
      rcases h.sign with ⟨a, b⟩ | ⟨a, b⟩ | b
      · have : 0 ≤ y * d := mulnn b (Rat.le_of_lt hd)
        have h0 : mg x = 0 := by have := hx.mg0; grind
        rw [e, h0]; grind
      · rw [a, e]; grind
      · have h0 : mg x = 0 := by rw [b] at hq; grind
        rw [e, h0]; grind
    · rw [s] at hq ⊢
      rcases h.sign with ⟨a, b⟩ | ⟨a, b⟩ | b
      · rw [a, e]; grind
      · have : 0 ≤ -y * d := mulnn (by grind) (Rat.le_of_lt hd)
        have h0 : mg x = 0 := by have := hx.mg0; grind
        rw [e, h0]; grind
      · have h0 : mg x = 0 := by rw [b] at hq; grind
        rw [e, h0]; grind
/-- A reflection's middle number: tau times v's product with the list. -/
theorem gen_mid {xs : List Int} {n : Nat} {σ a0 nu d D M : Rat} (hl : xs.length ≤ 1000) (g : Gf xs n σ a0 nu d D M) :
    ∃ m, val (genT xs) * sm (fun i => val ((genV xs).getD i 0) * val ((genU xs).getD i 0)) (n + 1) = σ * m ∧ Nb (n + 11) m D ∧ Nb (n + 12) m d ∧ 0 ≤ m ∧ 1 ≤ sm (fun i => val ((genU xs).getD i 0) * val ((genU xs).getD i 0)) (n + 1) := by
  have hn : n ≤ 1000 := by have := g.len; omega
  have hσ := sgsq g.sg
  have a0n := g.az
  have an := g.an
  have nu1 := g.nu1
  have nd := g.nd
  have hD := g.DD
  have hd0 : 0 < d := by grind
  have hD0 : 0 < D := by grind
  have hnu0 : 0 < nu := by grind
  have hus : ∀ i, i < n + 1 → Fn ((genU xs).getD i 0) ∧ mg ((genU xs).getD i 0) ≤ 2 := fun i hi => ⟨(g.un.fl i (by rw [g.len]; exact hi)).fn, Rat.le_trans (g.un.le i (by rw [g.len]; exact hi)) (Rat.le_of_lt g.un.hi)⟩
  have hflv := g.flv
  have hdv := g.dv
  rw [hdv] at hflv
  have hsq := g.sq
  have hv0 : val ((genV xs).getD 0 0) * val ((genU xs).getD 0 0) = σ * a0 := by
    rw [g.a]
    have hc : genB xs = true ∨ genB xs = false := by cases genB xs <;> simp
    have h1 : ∀ (l : List Int), val (((4607182418800017408 : Int) :: l).getD 0 0) = 1 := fun l => by
      rw [List.getD_cons_zero]
      have h1 : val 4607182418800017408 = sgn (negM 4607182418800017408) * mg 4607182418800017408 := rfl
      rw [h1, show negM 4607182418800017408 = false by decide, mg_one]
      simp [sgn]
    have h2 : val ((genV xs).getD 0 0) = 1 := by
      rcases hc with h | h
      · unfold genV
        rw [if_pos h, g.len]
        exact h1 _
      · unfold genV
        rw [if_neg (by rw [h]; decide)]
        exact h1 _
    rw [h2]; grind
  have htop : 1 ≤ sm (fun i => val ((genU xs).getD i 0) * val ((genU xs).getD i 0)) (n + 1) := by
    obtain ⟨i, hi, h⟩ := g.un.top
    rw [g.len] at hi
    refine Rat.le_trans ?_ (sm_pos_le (f := fun i => val ((genU xs).getD i 0) * val ((genU xs).getD i 0)) (n + 1) (fun i _ => sqnn _) i hi)
    show 1 ≤ val ((genU xs).getD i 0) * val ((genU xs).getD i 0)
    rw [vmul_nn (hus i hi).1, h]
    have := mul2 g.un.lo g.un.lo (by decide) (Rat.le_trans (by decide) g.un.lo)
    rwa [Rat.mul_one] at this
  obtain ⟨T, hT⟩ : ∃ T, sm (fun i => mg ((genU xs).getD (i + 1) 0) * mg ((genU xs).getD (i + 1) 0)) n = T := ⟨_, rfl⟩
  obtain ⟨Z, hZ⟩ : ∃ Z, sm (fun i => mg ((genV xs).getD (i + 1) 0) * mg ((genU xs).getD (i + 1) 0)) n = Z := ⟨_, rfl⟩
  have hT0 : 0 ≤ T := by rw [← hT]; exact sm_sq_nn _ _
  have hZ0 : 0 ≤ Z := by rw [← hZ]; exact sm_nn n fun i hi => mulnn (hflv i hi).fn.mg0 (hus (i + 1) (by omega)).1.mg0
  have hS : sm (fun i => val ((genU xs).getD i 0) * val ((genU xs).getD i 0)) (n + 1) = a0 * a0 + T := by
    rw [sm_head, ← hT, g.a, show σ * a0 * (σ * a0) = (σ * σ) * (a0 * a0) by grind, hσ, Rat.one_mul]
    congr 1
    exact sm_congr n fun i hi => vmul_nn (hus (i + 1) (by omega)).1
  rw [hS] at hsq htop ⊢
  have hw : sm (fun i => val ((genV xs).getD i 0) * val ((genU xs).getD i 0)) (n + 1) = σ * (a0 + Z) := by
    rw [sm_head, hv0, ← hZ]
    have : sm (fun i => val ((genV xs).getD (i + 1) 0) * val ((genU xs).getD (i + 1) 0)) n = sm (fun i => σ * (mg ((genV xs).getD (i + 1) 0) * mg ((genU xs).getD (i + 1) 0))) n := sm_congr n fun i hi => by
      rw [← quo_sign g.sg hd0 (hus (i + 1) (by omega)).1 (hflv i hi)]
      generalize val ((genV xs).getD (i + 1) 0) = y
      generalize val ((genU xs).getD (i + 1) 0) = z
      rw [show σ * (σ * y * z) = (σ * σ) * (y * z) by grind, hσ, Rat.one_mul]
    rw [this, sm_mul]; grind
  -- each product
  have u0 := u53_pos
  have u1 := u53_small
  have e0 := eta_pos
  have et := eta_tiny
  have hterm : ∀ i, i < n → (1 - u53) * (mg ((genV xs).getD (i + 1) 0) * mg ((genU xs).getD (i + 1) 0) * d) ≤ mg ((genU xs).getD (i + 1) 0) * mg ((genU xs).getD (i + 1) 0) + 100000 * eta ∧ (1 - u53) * (mg ((genU xs).getD (i + 1) 0) * mg ((genU xs).getD (i + 1) 0)) ≤ mg ((genV xs).getD (i + 1) 0) * mg ((genU xs).getD (i + 1) 0) * d + 100000 * eta := fun i hi => by
    obtain ⟨f1, f2⟩ := hus (i + 1) (by omega)
    obtain ⟨h1, h2⟩ := (hflv i hi).erra
    have hab : ab (val ((genU xs).getD (i + 1) 0) / (σ * d)) * d = mg ((genU xs).getD (i + 1) 0) := by
      have hsd : σ * d ≠ 0 := by rcases g.sg with e | e <;> rw [e] <;> grind
      have hq : val ((genU xs).getD (i + 1) 0) / (σ * d) * (σ * d) = val ((genU xs).getD (i + 1) 0) := Rat.div_mul_cancel hsd
      have h3 : ab (σ * d) = d := by
        rcases g.sg with e | e
        · rw [e, Rat.one_mul, ab_of (Rat.le_of_lt hd0)]
        · rw [e, show (-1 : Rat) * d = -d by grind, ab_neg, ab_of (Rat.le_of_lt hd0)]
      have h4 := congrArg ab hq
      rw [ab_mul, h3, f1.ab] at h4
      exact h4
    generalize ab (val ((genU xs).getD (i + 1) 0) / (σ * d)) = q at h1 h2 hab
    have y0 := f1.mg0
    have hdb : d ≤ 40000 := by
      have h5 := g.nbD.le
      have h6 := g.nub
      have h7 := mulr (pk_half (k := 1) (by decide)) (Rat.le_of_lt hd0)
      grind
    generalize mg ((genU xs).getD (i + 1) 0) = y at *
    generalize mg ((genV xs).getD (i + 1) 0) = v at *
    have hyd : 0 ≤ y * d := mulnn y0 (Rat.le_of_lt hd0)
    have hyd2 : y * d ≤ 2 * 40000 := mul2 f2 hdb y0 (by decide)
    have hyde : eta * (y * d) ≤ eta * (2 * 40000) := mull hyd2 (Rat.le_of_lt e0)
    have a := mulr h1 hyd
    have b := mulr h2 hyd
    have c1 : ((1 + u53) * q + eta) * (y * d) = (1 + u53) * (q * d) * y + eta * (y * d) := by grind
    have c2 : (1 - u53) * q * (y * d) = (1 - u53) * (q * d) * y := by grind
    rw [c1, hab] at a
    rw [c2, hab] at b
    have yy : 0 ≤ y * y := sqnn y
    have uyy : 0 ≤ u53 * u53 * (y * y) := mulnn (mulnn (Rat.le_of_lt u0) (Rat.le_of_lt u0)) yy
    constructor
    · have a2 := mull a (show (0 : Rat) ≤ 1 - u53 by grind)
      have c3 : 0 ≤ u53 * (eta * (y * d)) := mulnn (Rat.le_of_lt u0) (mulnn (Rat.le_of_lt e0) hyd)
      grind
    · grind
  have hA := sm_lin (c := 1 - u53) (e := 100000 * eta) n (fun i hi => (hterm i hi).1)
  have hB := sm_lin (c := 1 - u53) (e := 100000 * eta) n (fun i hi => (hterm i hi).2)
  have hZd : sm (fun i => mg ((genV xs).getD (i + 1) 0) * mg ((genU xs).getD (i + 1) 0) * d) n = d * Z := by
    rw [← hZ, ← sm_mul]; exact sm_congr n fun i _ => by grind
  rw [hZd, hT] at hA hB
  have hne : ((n : Int) : Rat) * (100000 * eta) ≤ 1000 * (100000 * eta) := mulr (ile (b := 1000) (by omega)) (by grind)
  have hn0 : 0 ≤ ((n : Int) : Rat) * (100000 * eta) := mulnn (nat_nn _) (by grind)
  have huu : u53 * u53 ≤ 1 / 1000000000000 * u53 := mulr u1 (Rat.le_of_lt u0)
  generalize ((n : Int) : Rat) * (100000 * eta) = e at hA hB hne hn0
  have had : 0 ≤ a0 * d := mulnn a0n (Rat.le_of_lt hd0)
  have hB1 : 1 ≤ a0 * d + T := by
    have : a0 * a0 ≤ a0 * d := mull (by grind) a0n
    grind
  have hdZ0 : 0 ≤ d * Z := mulnn (Rat.le_of_lt hd0) hZ0
  have nb1 : Nb 2 (a0 * d + d * Z) (a0 * d + T) := by
    refine nb_slack (k := 1) (d := e) hB1 (by grind) ?_ ?_ hn0 (by grind) (pk_half (by decide))
    · rw [pk, pk, Rat.one_mul, Rat.mul_add]
      have : 0 ≤ u53 * (a0 * d) := mulnn (Rat.le_of_lt u0) had
      grind
    · rw [pk, pk, Rat.one_mul, Rat.mul_add]
      have : 0 ≤ u53 * (a0 * d) := mulnn (Rat.le_of_lt u0) had
      grind
  have nb2 : Nb 1 (a0 * d + T) (a0 * D + T) := by
    have h1 := (Nb.refl a0).mul g.nbD a0n a0n (Rat.le_of_lt hd0) (Rat.le_of_lt hD0)
    exact h1.add ((Nb.refl T).mono (by decide) hT0 hT0)
  have nb3 : Nb (n + 5) (a0 * D + T) (nu * D) := by
    have e1 : a0 * D + T = (a0 * a0 + T) + a0 * nu := by rw [← hD]; grind
    have e2 : nu * D = nu * nu + a0 * nu := by rw [← hD]; grind
    have hc0 : 0 ≤ a0 * nu := mulnn a0n (Rat.le_of_lt hnu0)
    rw [e1, e2]
    exact hsq.symm.add ((Nb.refl _).mono (by omega) hc0 hc0)
  have nb4 := (nb1.trans nb2).trans nb3
  have haz : 0 ≤ a0 + Z := by grind
  have nb5 : Nb (n + 9) (a0 + Z) nu := by
    refine Nb.cancel (z := d) hd0 ?_
    have h1 : (a0 + Z) * d = a0 * d + d * Z := by grind
    rw [h1]
    have h2 := (Nb.refl nu).mul g.nbD.symm (Rat.le_of_lt hnu0) (Rat.le_of_lt hnu0) (Rat.le_of_lt hD0) (Rat.le_of_lt hd0)
    have h3 := nb4.trans h2
    exact h3.mono (by omega) (by grind) (mulnn (Rat.le_of_lt hnu0) (Rat.le_of_lt hd0))
  have ht0 : 0 ≤ val (genT xs) := Rat.le_trans (by decide) g.t1
  have hDn : D / nu * nu = D := Rat.div_mul_cancel (by grind)
  have hDn0 : 0 ≤ D / nu := div_nn (Rat.le_of_lt hD0) hnu0
  have nb6 := g.nbT.mul nb5 ht0 hDn0 haz (Rat.le_of_lt hnu0)
  rw [hDn] at nb6
  have hm0 : 0 ≤ val (genT xs) * (a0 + Z) := mulnn ht0 haz
  refine ⟨val (genT xs) * (a0 + Z), ?_, nb6.mono (by omega) hm0 (Rat.le_of_lt hD0), ?_, hm0, htop⟩
  · rw [hw]; grind
  · exact (nb6.trans g.nbD.symm).mono (by omega) hm0 (Rat.le_of_lt hd0)
end Go.Proofs.YtcikcinkjbbnhaaDoor.M

/- A list reflected is nearly its first number alone: the plain law. -/
set_option linter.unusedSimpArgs false
set_option linter.unusedVariables false
set_option maxHeartbeats 1000000
namespace Go.Proofs.YtcikcinkjbbnhaaDoor.M
open Go Go.Proofs

theorem pk_99 {k : Nat} (h : (k : Int) ≤ 1000000) : (99 : Rat) / 100 ≤ pk k := by
  have b := bern k
  have hku : ((k : Int) : Rat) * u53 ≤ 1 / 1000000 := by
    have h1 : ((k : Int) : Rat) ≤ (1000000 : Rat) := ile h
    have := mul2 h1 u53_small (nat_nn k) (by grind)
    exact Rat.le_trans this (by grind)
  grind
theorem ku_small {k : Nat} (h : (k : Int) ≤ 100000) : ((k : Int) : Rat) * u53 ≤ 1 / 1000000 := by
  have h1 : ((k : Int) : Rat) ≤ (100000 : Rat) := ile h
  have := mul2 h1 u53_small (nat_nn k) (by grind)
  exact Rat.le_trans this (by grind)
/-- One of the other numbers, reflected. -/
theorem rest_sq {σ d m x v u w : Rat} (hσ : σ = 1 ∨ σ = -1) (hd : 0 < d) (hdb : d ≤ 40000) (hx : x * (σ * d) = u) (hm0 : 0 ≤ m) (hm : ab (m - d) ≤ 2 * w * d) (hw0 : 0 ≤ w) (hw : w ≤ 1 / 1000000) (hv : ab (v - x) ≤ u53 * ab x + eta) (hu : ab u ≤ 2) :
    (u - σ * m * v) * (u - σ * m * v) ≤ (2 * w + 2 * u53) * (2 * w + 2 * u53) * (u * u) + 4000 * eta := by
  have u0 := u53_pos
  have u1 := u53_small
  have e0 := eta_pos
  have et := eta_tiny
  have hs1 : ab σ = 1 := by
    rcases hσ with e | e
    · rw [e, ab_of (by decide)]
    · rw [e, show (-1 : Rat) = -(1 : Rat) by grind, ab_neg, ab_of (by decide)]
  have hσ2 := sgsq hσ
  have hxd : ab x * d = ab u := by
    rw [← hx, ab_mul, ab_mul, hs1, Rat.one_mul, ab_of (Rat.le_of_lt hd)]
  have hx0 := ab_nn x
  have hmd := (ab_le.1 hm)
  have hm2 : m ≤ 2 * d := by
    have : 2 * w * d ≤ 2 * (1 / 1000000) * d := mulr (mull hw (by decide)) (Rat.le_of_lt hd)
    grind
  have e1 : u - σ * m * v = σ * x * (d - m) - σ * m * (v - x) := by rw [← hx]; grind
  have h1 : ab (u - σ * m * v) ≤ ab x * ab (m - d) + m * (u53 * ab x + eta) := by
    rw [e1]
    have a := ab_add (σ * x * (d - m)) (-(σ * m * (v - x)))
    rw [ab_neg, ab_mul, ab_mul, ab_mul, ab_mul, hs1, Rat.one_mul, Rat.one_mul, ab_of hm0, ab_comm d m] at a
    have b := mull hv hm0
    have c : σ * x * (d - m) - σ * m * (v - x) = σ * x * (d - m) + -(σ * m * (v - x)) := by grind
    rw [c]
    exact Rat.le_trans a (add_le2 Rat.le_refl b)
  have h2 : ab x * ab (m - d) ≤ 2 * w * ab u := by
    have := mull hm hx0
    rw [← hxd]; grind
  have h3 : m * (u53 * ab x) ≤ 2 * u53 * ab u := by
    have := mulr hm2 (mulnn (Rat.le_of_lt u0) hx0)
    rw [← hxd]; grind
  have h4 : m * eta ≤ 80000 * eta := mulr (by grind) (Rat.le_of_lt e0)
  have h5 : ab (u - σ * m * v) ≤ (2 * w + 2 * u53) * ab u + 80000 * eta := by grind
  have hu0 := ab_nn u
  have hk0 : 0 ≤ 2 * w + 2 * u53 := by grind
  have hk1 : 2 * w + 2 * u53 ≤ 1 / 100000 := by grind
  have h6 := mul2 h5 h5 (ab_nn _) (by have := mulnn hk0 hu0; grind)
  rw [ab_sq] at h6
  have h7 : (2 * w + 2 * u53) * ab u ≤ 1 / 100000 * 2 := mul2 hk1 hu hk0 (by decide)
  have h8 : eta * ((2 * w + 2 * u53) * ab u) ≤ eta * (1 / 100000 * 2) := mull h7 (Rat.le_of_lt e0)
  have huu : u53 * u53 ≤ 1 / 1000000000000 := by
    have := mul2 u1 u1 (Rat.le_of_lt u0) (by grind)
    exact Rat.le_trans this (by grind)
  have h9 : eta * (6400000000 * eta) ≤ eta * 1 := mull (by grind) (Rat.le_of_lt e0)
  have h10 : (2 * w + 2 * u53) * ab u * ((2 * w + 2 * u53) * ab u) = (2 * w + 2 * u53) * (2 * w + 2 * u53) * (u * u) := by
    rw [← ab_sq u]; grind
  grind
theorem near_u {xs : List Int} {n : Nat} {σ a0 nu d D M : Rat} (hl : xs.length ≤ 1000) (g : Gf xs n σ a0 nu d D M) :
    1 ≤ sm (fun i => val ((genU xs).getD i 0) * val ((genU xs).getD i 0)) (n + 1) ∧
    Nm (fun i => val ((genU xs).getD i 0) - val (genT xs) * sm (fun i => val ((genV xs).getD i 0) * val ((genU xs).getD i 0)) (n + 1) * val ((genV xs).getD i 0) - (if i = 0 then val (genBeta xs) else 0)) (n + 1) (6 * ((((n + 13 : Nat) : Int) : Rat) * u53)) (sm (fun i => val ((genU xs).getD i 0) * val ((genU xs).getD i 0)) (n + 1)) := by
  have hn : n ≤ 1000 := by have := g.len; omega
  obtain ⟨m, hm, nbD, nbd, hm0, hS1⟩ := gen_mid hl g
  refine ⟨hS1, ?_⟩
  have hv1 : val ((genV xs).getD 0 0) = 1 := by
    have hc : genB xs = true ∨ genB xs = false := by cases genB xs <;> simp
    have h1 : ∀ (l : List Int), val (((4607182418800017408 : Int) :: l).getD 0 0) = 1 := fun l => by
      rw [List.getD_cons_zero]
      have h1 : val 4607182418800017408 = sgn (negM 4607182418800017408) * mg 4607182418800017408 := rfl
      rw [h1, show negM 4607182418800017408 = false by decide, mg_one]
      simp [sgn]
    rcases hc with h | h
    · unfold genV
      rw [if_pos h, g.len]
      exact h1 _
    · unfold genV
      rw [if_neg (by rw [h]; decide)]
      exact h1 _
  have nu1 := g.nu1
  have hd0 : 0 < d := by have := g.nd; grind
  have hD0 : 0 < D := by have := g.DD; have := g.az; grind
  have hdb : d ≤ 40000 := by
    have h5 := g.nbD.le
    have h6 := g.nub
    have h8 := g.DD
    have h9 := g.an
    have h7 := mulr (pk_half (k := 1) (by decide)) (Rat.le_of_lt hd0)
    grind
  have hflv := g.flv
  rw [g.dv] at hflv
  have hus : ∀ i, i < n + 1 → Fn ((genU xs).getD i 0) ∧ mg ((genU xs).getD i 0) ≤ 2 := fun i hi => ⟨(g.un.fl i (by rw [g.len]; exact hi)).fn, Rat.le_trans (g.un.le i (by rw [g.len]; exact hi)) (Rat.le_of_lt g.un.hi)⟩
  obtain ⟨S, hS⟩ : ∃ S, sm (fun i => val ((genU xs).getD i 0) * val ((genU xs).getD i 0)) (n + 1) = S := ⟨_, rfl⟩
  have hsq := g.sq
  rw [hS] at hS1 hsq ⊢
  obtain ⟨w, hw⟩ : ∃ w, (((n + 13 : Nat) : Int) : Rat) * u53 = w := ⟨_, rfl⟩
  rw [hw]
  have u0 := u53_pos
  have hwk : ∀ k : Nat, k ≤ n + 13 → ((k : Int) : Rat) * u53 ≤ w := fun k hk => by
    rw [← hw]; exact mulr (ile (by omega)) (Rat.le_of_lt u0)
  have hwu : u53 ≤ w := by
    have := hwk 1 (by omega)
    have e : (((1 : Nat) : Int) : Rat) = 1 := rfl
    rwa [e, Rat.one_mul] at this
  have hw1 : w ≤ 1 / 1000000 := by rw [← hw]; exact ku_small (by omega)
  have hw0 : 0 ≤ w := by grind
  have dD := nbD.dist hm0 (Rat.le_of_lt hD0) (by omega)
  have dd := nbd.dist hm0 (Rat.le_of_lt hd0) (by omega)
  have dD2 : ab (m - D) ≤ 2 * w * D := Rat.le_trans dD (mulr (mull (hwk _ (by omega)) (by decide)) (Rat.le_of_lt hD0))
  obtain ⟨w2, hw2⟩ : ∃ w2, (((n + 12 : Nat) : Int) : Rat) * u53 = w2 := ⟨_, rfl⟩
  rw [hw2] at dd
  have hw2w : w2 + u53 = w := by
    rw [← hw, ← hw2]
    have e : (((n + 13 : Nat) : Int) : Rat) = (((n + 12 : Nat) : Int) : Rat) + 1 := by push_cast; grind
    rw [e]; grind
  have hw20 : 0 ≤ w2 := by rw [← hw2]; exact mulnn (nat_nn _) (Rat.le_of_lt u0)
  refine ⟨by grind, ?_⟩
  rw [sm_head]
  -- the first one
  have hf0 : (val ((genU xs).getD 0 0) - val (genT xs) * sm (fun i => val ((genV xs).getD i 0) * val ((genU xs).getD i 0)) (n + 1) * val ((genV xs).getD 0 0) - (if (0 : Nat) = 0 then val (genBeta xs) else 0)) = σ * (D - m) := by
    rw [if_pos rfl, hm, hv1, g.a, g.be, ← g.DD]; grind
  have hrest : ∀ i, i < n → 1 * ((val ((genU xs).getD (i + 1) 0) - val (genT xs) * sm (fun i => val ((genV xs).getD i 0) * val ((genU xs).getD i 0)) (n + 1) * val ((genV xs).getD (i + 1) 0) - (if i + 1 = 0 then val (genBeta xs) else 0)) * (val ((genU xs).getD (i + 1) 0) - val (genT xs) * sm (fun i => val ((genV xs).getD i 0) * val ((genU xs).getD i 0)) (n + 1) * val ((genV xs).getD (i + 1) 0) - (if i + 1 = 0 then val (genBeta xs) else 0))) ≤ (2 * w) * (2 * w) * (val ((genU xs).getD (i + 1) 0) * val ((genU xs).getD (i + 1) 0)) + 4000 * eta := fun i hi => by
    rw [if_neg (by omega), hm, Rat.one_mul]
    have hsd : σ * d ≠ 0 := by rcases g.sg with e | e <;> rw [e] <;> grind
    have hq : val ((genU xs).getD (i + 1) 0) / (σ * d) * (σ * d) = val ((genU xs).getD (i + 1) 0) := Rat.div_mul_cancel hsd
    have he := (hflv i hi).err
    have := rest_sq (v := val ((genV xs).getD (i + 1) 0)) g.sg hd0 hdb hq hm0 dd hw20 (by grind) he (by rw [(hus (i + 1) (by omega)).1.ab]; exact (hus (i + 1) (by omega)).2)
    have e : 2 * w2 + 2 * u53 = 2 * w := by grind
    rw [e] at this
    rw [show ∀ a b : Rat, a - b - 0 = a - b from fun a b => by grind]
    exact this
  have hsum := sm_lin (c := 1) (e := 4000 * eta) n hrest
  rw [sm_mul, Rat.one_mul] at hsum
  rw [hf0]
  have hsplit : S = val ((genU xs).getD 0 0) * val ((genU xs).getD 0 0) + sm (fun i => val ((genU xs).getD (i + 1) 0) * val ((genU xs).getD (i + 1) 0)) n := by rw [← hS, sm_head]
  have hTS : sm (fun i => val ((genU xs).getD (i + 1) 0) * val ((genU xs).getD (i + 1) 0)) n ≤ S := by
    have := sqnn (val ((genU xs).getD 0 0))
    rw [hsplit]; grind
  have hT0 : 0 ≤ sm (fun i => val ((genU xs).getD (i + 1) 0) * val ((genU xs).getD (i + 1) 0)) n := sm_sq_nn _ _
  generalize sm (fun i => val ((genU xs).getD (i + 1) 0) * val ((genU xs).getD (i + 1) 0)) n = T at hsum hTS hT0
  refine Rat.le_trans (add_le2 Rat.le_refl hsum) ?_
  clear hsum hrest hf0 hsplit hflv hus nbD nbd dD
  have hσ2 := sgsq g.sg
  have e1 : σ * (D - m) * (σ * (D - m)) = (m - D) * (m - D) := by
    rw [show σ * (D - m) * (σ * (D - m)) = (σ * σ) * ((m - D) * (m - D)) by grind, hσ2, Rat.one_mul]
  rw [e1]
  have h1 : (m - D) * (m - D) ≤ 2 * w * D * (2 * w * D) := by
    rw [← ab_sq]
    exact mul2 dD2 dD2 (ab_nn _) (mulnn (by grind) (Rat.le_of_lt hD0))
  have hD2 : D * D ≤ 2 * nu * (2 * nu) := by
    have h2 : D ≤ 2 * nu := by have := g.DD; have := g.an; grind
    exact mul2 h2 h2 (Rat.le_of_lt hD0) (by grind)
  have hnS : 99 / 100 * (nu * nu) ≤ S := by
    have h2 := hsq.le
    have h3 := mulr (pk_99 (k := n + 1 + 4) (by omega)) (sqnn nu)
    exact Rat.le_trans h3 h2
  have hww : 0 ≤ w * w := sqnn w
  have h3 : w * w * (D * D) ≤ w * w * (5 * S) := mull (by grind) hww
  have h4 : w * w * T ≤ w * w * S := mull hTS hww
  have hne : ((n : Int) : Rat) * (4000 * eta) ≤ 1000 * (4000 * eta) := mulr (ile (b := 1000) (by omega)) (by have := eta_pos; grind)
  have et := eta_tiny
  have ep := eta_pos
  have huw : u53 * u53 ≤ w * w := mul2 hwu hwu (Rat.le_of_lt u0) hw0
  have hwS : w * w * 1 ≤ w * w * S := mull hS1 hww
  grind
end Go.Proofs.YtcikcinkjbbnhaaDoor.M

/- A list reflected is nearly its first number alone: the plain law. -/
set_option linter.unusedSimpArgs false
set_option linter.unusedVariables false
set_option maxHeartbeats 1000000
namespace Go.Proofs.YtcikcinkjbbnhaaDoor.M
open Go Go.Proofs

/-- A reflection doesn't let a list grow. -/
theorem refl_sq (v x : Nat → Rat) (t : Rat) (n : Nat) (ht : 0 ≤ t) {k : Nat} (hk : (k : Int) ≤ 100000) (hN : Nb k (t * sm (fun i => v i * v i) n) 2) :
    sm (fun i => (x i - t * sm (fun i => v i * x i) n * v i) * (x i - t * sm (fun i => v i * x i) n * v i)) n ≤ 102 / 100 * sm (fun i => x i * x i) n := by
  obtain ⟨N, hNe⟩ : ∃ N, sm (fun i => v i * v i) n = N := ⟨_, rfl⟩
  obtain ⟨p, hp⟩ : ∃ p, sm (fun i => v i * x i) n = p := ⟨_, rfl⟩
  obtain ⟨X, hX⟩ : ∃ X, sm (fun i => x i * x i) n = X := ⟨_, rfl⟩
  have hN0 : 0 ≤ N := by rw [← hNe]; exact sm_sq_nn _ _
  have hX0 : 0 ≤ X := by rw [← hX]; exact sm_sq_nn _ _
  have hc := cauchy v x n
  rw [hp, hNe, hX] at hc
  rw [hNe] at hN
  rw [hp, hX]
  have h1 : sm (fun i => (x i - t * p * v i) * (x i - t * p * v i)) n = X + (-2 * (t * p)) * p + t * p * (t * p) * N := by
    rw [← hX, ← hNe]
    have : -2 * (t * p) * p = -2 * (t * p) * sm (fun i => v i * x i) n := by rw [hp]
    rw [this, ← sm_mul, ← sm_mul, ← sm_add, ← sm_add]
    exact sm_congr n fun i _ => by grind
  rw [h1]
  have htN : 0 ≤ t * N := mulnn ht hN0
  have hd := hN.dist htN (by decide) (by omega)
  have hku := ku_small hk
  have hd2 := (ab_le.1 hd).1
  have h2 : t * N - 2 ≤ 1 / 1000 := by grind
  have h3 : t * (p * p) ≤ t * (N * X) := mull hc ht
  have htp : 0 ≤ t * (p * p) := mulnn ht (sqnn p)
  have h4 : t * (p * p) * (t * N - 2) ≤ t * (p * p) * (1 / 1000) := mull h2 htp
  have h5 : t * N * X ≤ 3 * X := mulr (by grind) hX0
  grind
theorem near_law {xs : List Int} (hx : ∀ x ∈ xs, Fn x) (hl : xs.length ≤ 1000) (hB : genB xs = false) (hf : (genK xs).2 = 0 ∨ (genK xs).2 = 1) :
    Fn (genK xs).1 ∧ Nm (fun i => val (xs.getD i 0) - val (genT xs) * sm (fun i => val ((genV xs).getD i 0) * val (xs.getD i 0)) xs.length * val ((genV xs).getD i 0) - (if i = 0 then val (genK xs).1 else 0)) xs.length (((32 * ((xs.length : Int) + 4) : Int) : Rat) * u53) (sm (fun i => val (xs.getD i 0) * val (xs.getD i 0)) xs.length) := by
  obtain ⟨n, σ, a0, nu, d, D, M, g⟩ := gen_full hx hl hB
  have gn := gen_near hx hl hB
  have hn : n ≤ 1000 := by have := g.len; omega
  obtain ⟨hS1, hg⟩ := near_u hl g
  have hnear := gn.near
  rw [g.len] at hnear ⊢
  have hp : (powerM xs).2 = true := by
    unfold genB at hB
    cases h : (powerM xs).2
    · rw [h] at hB; simp at hB
    · rfl
  have hpe : -1074 ≤ (powerM xs).1 ∧ (powerM xs).1 ≤ 1023 := by
    rcases power_val hx with ⟨h, _⟩ | ⟨_, _, _, h⟩
    · rw [hp] at h; cases h
    · exact h
  have hfl := g.un.fl
  obtain ⟨e, he⟩ : ∃ e, (powerM xs).1 = e := ⟨_, rfl⟩
  rw [he] at hpe hfl
  have hK : genK xs = scaleM (genBeta xs) e := by
    unfold genK
    rw [if_neg (by rw [hB]; decide), he]
  rw [hK] at hf ⊢
  obtain ⟨P, hP⟩ : ∃ P, pw e = P := ⟨_, rfl⟩
  have hP0 : 0 < P := by rw [← hP]; exact pw_pos _
  have hPi : pw (-e) * P = 1 := by rw [← hP]; exact pw_neg e
  -- b
  obtain ⟨ρ, hρ⟩ := scale_val (n := e) g.fb.inu g.fb.fin (by omega)
  have hlt : ρ < pw 1024 := by
    rcases Rat.le_total (a := pw 1024) (b := ρ) with h | h
    · exfalso
      rcases hρ.fo.2 h with h1 | h1 <;> rcases hf with h2 | h2 <;> rw [h2] at h1 <;> exact absurd h1 (by decide)
    · by_cases h1 : ρ = pw 1024
      · exfalso
        rcases hρ.fo.2 (reqle h1.symm) with h1 | h1 <;> rcases hf with h2 | h2 <;> rw [h2] at h1 <;> exact absurd h1 (by decide)
      · exact lt_of_le_ne h h1
  obtain ⟨b1, b2⟩ := hρ.val hlt
  refine ⟨⟨hρ.inu, b1⟩, ?_⟩
  have hmb : mg (genBeta xs) = nu := by
    rw [← g.fb.ab, g.be, ab_neg, ab_mul, ab_of (show 0 ≤ nu by have := g.nu1; grind)]
    rcases g.sg with h | h
    · rw [h, ab_of (by decide), Rat.one_mul]
    · rw [h, show (-1 : Rat) = -(1 : Rat) by grind, ab_neg, ab_of (by decide), Rat.one_mul]
  have hberr : ab (val (genBeta xs) * P - val (scaleM (genBeta xs) e).1) ≤ u53 * (nu * P) := by
    have h1 : ab (ρ - mg (genBeta xs) * pw e) ≤ u53 * (mg (genBeta xs) * pw e) := by
      rcases hf with h | h
      · rw [hρ.f0 h, show ∀ a : Rat, a - a = 0 from fun a => by grind, ab_zero]
        exact mulnn (Rat.le_of_lt u53_pos) (mulnn g.fb.mg0 (pw_nn _))
      · exact hρ.f1 (.inl h)
    rw [hmb, hP] at h1
    have h2 : val (genBeta xs) * P - val (scaleM (genBeta xs) e).1 = sgn (negM (genBeta xs)) * (nu * P - ρ) := by
      rw [b2]
      have : val (genBeta xs) = sgn (negM (genBeta xs)) * nu := by rw [← hmb]; rfl
      rw [this]; grind
    rw [h2, ab_sgn, ab_comm]; exact h1
  generalize (scaleM (genBeta xs) e).1 = bb at hberr
  -- the lists
  obtain ⟨x, hxe⟩ : ∃ x : Nat → Rat, (fun i => val (xs.getD i 0) * pw (-e)) = x := ⟨_, rfl⟩
  obtain ⟨u, hue⟩ : ∃ u : Nat → Rat, (fun i => val ((genU xs).getD i 0)) = u := ⟨_, rfl⟩
  obtain ⟨v, hve⟩ : ∃ v : Nat → Rat, (fun i => val ((genV xs).getD i 0)) = v := ⟨_, rfl⟩
  obtain ⟨t, hte⟩ : ∃ t, val (genT xs) = t := ⟨_, rfl⟩
  obtain ⟨be, hbe⟩ : ∃ be, val (genBeta xs) = be := ⟨_, rfl⟩
  have hu : ∀ i, val ((genU xs).getD i 0) = u i := fun i => by rw [← hue]
  have hv : ∀ i, val ((genV xs).getD i 0) = v i := fun i => by rw [← hve]
  have hxi : ∀ i, val (xs.getD i 0) = x i * P := fun i => by rw [← hxe]; show _ = val (xs.getD i 0) * pw (-e) * P; rw [Rat.mul_assoc, hPi, Rat.mul_one]
  have ht0 : 0 ≤ t := by rw [← hte]; exact Rat.le_of_lt gn.pos
  have hsq := g.sq
  simp only [hu, hv, hte, hbe] at hS1 hg hnear hsq hberr ⊢
  simp only [hxi]
  have herr : ∀ i, i < n + 1 → ab (u i - x i) ≤ u53 * ab (x i) + eta := fun i hi => by
    have := (hfl i (by rw [g.len]; exact hi)).err
    rw [hu] at this
    rw [← hxe]; exact this
  have hu2 : ∀ i, i < n + 1 → ab (u i) ≤ 2 := fun i hi => by
    rw [← hu, (g.un.fl i (by rw [g.len]; exact hi)).fn.ab]
    exact Rat.le_trans (g.un.le i (by rw [g.len]; exact hi)) (Rat.le_of_lt g.un.hi)
  clear hue hve hxe hu hv hxi hfl
  have u0 := u53_pos
  have u1 := u53_small
  have e0 := eta_pos
  have et := eta_tiny
  have huu : u53 * u53 ≤ 1 / 1000000000000 * u53 := mulr u1 (Rat.le_of_lt u0)
  have hab4 : ∀ i, i < n + 1 → ab (x i) ≤ 4 := fun i hi => by
    have h1 := herr i hi
    have h2 := ab_sub_ab (x i) (u i)
    rw [ab_comm (x i) (u i)] at h2
    have h3 := (ab_le.1 h2).1
    have h4 := hu2 i hi
    have h5 := mulr u1 (ab_nn (x i))
    grind
  have hpair : ∀ i, i < n + 1 → pk 2 * (u i * u i) ≤ x i * x i + 13 * eta := fun i hi => by
    have h1 := herr i hi
    have h2 := ab_sub_ab (u i) (x i)
    have h3 := sq_err (ab_nn (x i)) (Rat.le_trans h2 h1)
    have := (sq_two (ab_nn (u i)) (ab_nn (x i)) (hab4 i hi) h3.1 h3.2).1
    rwa [ab_sq, ab_sq] at this
  have hdel : ∀ i, i < n + 1 → 1 * ((x i - u i) * (x i - u i)) ≤ u53 * u53 * (x i * x i) + eta := fun i hi => by
    rw [Rat.one_mul]
    have h1 := herr i hi
    rw [ab_comm] at h1
    have h2 := mul2 h1 h1 (ab_nn _) (by have := mulnn (Rat.le_of_lt u0) (ab_nn (x i)); grind)
    rw [ab_sq] at h2
    have h3 : eta * ab (x i) ≤ eta * 4 := mull (hab4 i hi) (Rat.le_of_lt e0)
    have h4 : u53 * (eta * ab (x i)) ≤ 1 / 1000000000000 * (eta * 4) := mul2 u1 h3 (Rat.le_of_lt u0) (by grind)
    have h5 : eta * eta ≤ eta * (1 / 2) := mull (by grind) (Rat.le_of_lt e0)
    have h6 : u53 * ab (x i) * (u53 * ab (x i)) = u53 * u53 * (x i * x i) := by rw [← ab_sq (x i)]; grind
    grind
  have hsumP := sm_lin (c := pk 2) (e := 13 * eta) (n + 1) hpair
  have hsumD := sm_lin (c := 1) (e := eta) (n + 1) hdel
  rw [sm_mul, Rat.one_mul] at hsumD
  obtain ⟨S, hS⟩ : ∃ S, sm (fun i => u i * u i) (n + 1) = S := ⟨_, rfl⟩
  obtain ⟨X, hX⟩ : ∃ X, sm (fun i => x i * x i) (n + 1) = X := ⟨_, rfl⟩
  rw [hS, hX] at hsumP
  rw [hX] at hsumD
  rw [hS] at hS1 hg hsq
  have hX0 : 0 ≤ X := by rw [← hX]; exact sm_sq_nn _ _
  have hne : (((n + 1 : Nat) : Int) : Rat) * (13 * eta) ≤ 2000 * (13 * eta) := mulr (ile (b := 2000) (by omega)) (by grind)
  have hne2 : (((n + 1 : Nat) : Int) : Rat) * eta ≤ 2000 * eta := mulr (ile (b := 2000) (by omega)) (by grind)
  have p99 := pk_99 (k := 2) (by decide)
  have hSX : S ≤ 102 / 100 * X := by
    have h1 := mulr p99 (show 0 ≤ S by grind)
    grind
  have hX1 : 9 / 10 ≤ X := by grind
  have hDX : sm (fun i => (x i - u i) * (x i - u i)) (n + 1) ≤ 2 * (u53 * u53) * X := by
    have h1 : u53 * u53 * (9 / 10) ≤ u53 * u53 * X := mull hX1 (sqnn _)
    grind
  have hrefl := refl_sq v (fun i => x i - u i) t (n + 1) ht0 (by omega) hnear
  obtain ⟨w, hw⟩ : ∃ w, (((n + 13 : Nat) : Int) : Rat) * u53 = w := ⟨_, rfl⟩
  rw [hw] at hg
  have hw0 : 0 ≤ w := by rw [← hw]; exact mulnn (nat_nn _) (Rat.le_of_lt u0)
  have n1 : Nm _ (n + 1) (7 * w) X := ⟨by grind, Rat.le_trans hg.le (by
    have h1 : w * w * S ≤ w * w * (102 / 100 * X) := mull hSX (sqnn w)
    have h2 : 0 ≤ w * w * X := mulnn (sqnn w) hX0
    grind)⟩
  have n2 : Nm _ (n + 1) (2 * u53) X := ⟨by grind, Rat.le_trans hrefl (by
    have h2 : 0 ≤ u53 * u53 * X := mulnn (sqnn u53) hX0
    grind)⟩
  have n3 : Nm (fun i => if i = 0 then (be * P - val bb) / P else 0) (n + 1) (2 * u53) X := by
    refine ⟨by grind, ?_⟩
    rw [sm_head]
    have h0 : sm (fun i => (if i + 1 = 0 then (be * P - val bb) / P else 0) * (if i + 1 = 0 then (be * P - val bb) / P else 0)) n = 0 := by
      rw [sm_congr (g := fun _ => 0) n (fun i _ => by rw [if_neg (by omega)]; grind), sm_zero]
    rw [h0, if_pos rfl, Rat.add_zero]
    have hq : (be * P - val bb) / P * P = be * P - val bb := Rat.div_mul_cancel (by grind)
    generalize (be * P - val bb) / P = q at hq
    have hq2 : ab q ≤ u53 * nu := by
      refine mulc (c := P) ?_ hP0
      have : ab (q * P) = ab q * P := by rw [ab_mul, ab_of (Rat.le_of_lt hP0)]
      rw [← this, hq]
      exact Rat.le_trans hberr (reqle (by grind))
    have hnu0 : 0 ≤ nu := by have := g.nu1; grind
    have h1 := mul2 hq2 hq2 (ab_nn q) (mulnn (Rat.le_of_lt u0) hnu0)
    rw [ab_sq] at h1
    have h2 : 99 / 100 * (nu * nu) ≤ S := Rat.le_trans (mulr (pk_99 (k := n + 1 + 4) (by omega)) (sqnn nu)) hsq.le
    have h3 : u53 * u53 * (nu * nu) ≤ u53 * u53 * (2 * X) := mull (by grind) (sqnn _)
    have h4 : 0 ≤ u53 * u53 * X := mulnn (sqnn _) hX0
    grind
  have n4 := ((n1.add n2 hX0).add n3 hX0)
  have hunits : 7 * w + 2 * u53 + 2 * u53 ≤ ((32 * (((n + 1 : Nat) : Int) + 4) : Int) : Rat) * u53 := by
    rw [← hw]
    have e1 : (((n + 13 : Nat) : Int) : Rat) = ((n : Int) : Rat) + 13 := by push_cast; grind
    have e2 : ((32 * (((n + 1 : Nat) : Int) + 4) : Int) : Rat) = 32 * ((n : Int) : Rat) + 160 := by push_cast; grind
    rw [e1, e2]
    have := mulnn (nat_nn n) (Rat.le_of_lt u0)
    grind
  have n5 := n4.mono hunits hX0
  generalize ((32 * (((n + 1 : Nat) : Int) + 4) : Int) : Rat) * u53 = U at n5
  refine ⟨n5.e0, ?_⟩
  have hlin : sm (fun i => v i * (x i * P)) (n + 1) = P * (sm (fun i => v i * u i) (n + 1) + sm (fun i => v i * (x i - u i)) (n + 1)) := by
    rw [← sm_add, ← sm_mul]
    exact sm_congr _ fun i _ => by grind
  have hXP : sm (fun i => x i * P * (x i * P)) (n + 1) = P * P * X := by
    rw [← hX, ← sm_mul]; exact sm_congr _ fun i _ => by grind
  have hq : (be * P - val bb) / P * P = be * P - val bb := Rat.div_mul_cancel (by grind)
  rw [hXP, hlin]
  have h1 := mull n5.le (mulnn (Rat.le_of_lt hP0) (Rat.le_of_lt hP0))
  refine Rat.le_trans (reqle ?_) (Rat.le_trans h1 (reqle (by grind)))
  rw [← sm_mul]
  refine sm_congr _ fun i hi => ?_
  generalize sm (fun i => v i * u i) (n + 1) = A
  generalize sm (fun i => v i * (x i - u i)) (n + 1) = B
  generalize (be * P - val bb) / P = q at hq
  by_cases hi0 : i = 0
  · rw [if_pos hi0, if_pos hi0, if_pos hi0]
    have : val bb = be * P - q * P := by grind
    rw [this]; grind
  · rw [if_neg hi0, if_neg hi0, if_neg hi0]; grind
end Go.Proofs.YtcikcinkjbbnhaaDoor.M

/- The reflection of a list leaves its first number alone: in the program's own terms. -/
set_option linter.unusedSimpArgs false
set_option linter.unusedVariables false
set_option maxHeartbeats 1000000
namespace Go.Proofs.YtcikcinkjbbnhaaDoor.M
open Go Go.Proofs

theorem genZ_get (n i : Nat) (hi : 0 < i) : (genZ n).getD i 0 = 0 := by
  cases i with
  | zero => omega
  | succ i => simp [genZ, List.getD_eq_getElem?_getD, List.getElem?_replicate]; split <;> rfl
theorem genV_triv {xs : List Int} (hB : genB xs = true) (i : Nat) (hi : 0 < i) : (genV xs).getD i 0 = 0 := by
  unfold genV; rw [if_pos hB]; exact genZ_get _ _ hi
theorem genT_triv {xs : List Int} (hB : genB xs = true) : genT xs = 0 := by unfold genT; rw [if_pos hB]
theorem genK_triv {xs : List Int} (hB : genB xs = true) : genK xs = (xs.getD 0 0, 0) := by unfold genK; rw [if_pos hB]
theorem tail_get (xs : List Int) (i : Nat) : xs.tail.getD i 0 = xs.getD (i + 1) 0 := by
  simp [List.getD_eq_getElem?_getD]
/-- Where nothing is to be reflected the tail is as nothing. -/
theorem triv_law {xs : List Int} (hx : ∀ x ∈ xs, Fn x) (hl : xs.length ≤ 1000) (h0 : 0 < xs.length) (hB : genB xs = true) (i : Nat) (hi : 0 < i ∧ i < xs.length) :
    val (xs.getD i 0) * val (xs.getD i 0) ≤ pw (-800) * sm (fun i => val (xs.getD i 0) * val (xs.getD i 0)) xs.length := by
  obtain ⟨S, hS⟩ : ∃ S, sm (fun i => val (xs.getD i 0) * val (xs.getD i 0)) xs.length = S := ⟨_, rfl⟩
  have hS0 : 0 ≤ S := by rw [← hS]; exact sm_sq_nn _ _
  have hi' : Fn (xs.getD i 0) := hx _ (getD_mem' hi.2)
  have ht : xs.getD i 0 ∈ xs.tail := by
    obtain ⟨j, rfl⟩ : ∃ j, i = j + 1 := ⟨i - 1, by omega⟩
    rw [← tail_get]
    exact getD_mem' (by rw [List.length_tail]; omega)
  have hxt : ∀ x ∈ xs.tail, Fn x := fun x h => hx x (List.mem_of_mem_tail h)
  rw [hS, vmul_nn hi']
  have hz : mg (xs.getD i 0) = 0 → mg (xs.getD i 0) * mg (xs.getD i 0) ≤ pw (-800) * S := fun h => by
    rw [h, Rat.zero_mul]; exact mulnn (pw_nn _) hS0
  rcases power_val hx with ⟨_, _, h⟩ | ⟨hp, ⟨x, hxx, p1, _⟩, p3, p4, p5⟩
  · exact hz (h _ (getD_mem' hi.2))
  rcases power_val hxt with ⟨_, _, h⟩ | ⟨hq, _, q3, q4, q5⟩
  · exact hz (h _ ht)
  have hlt : (powerM xs.tail).1 - (powerM xs).1 < -400 := by
    unfold genB at hB
    rw [hp, hq] at hB
    simp only [Bool.not_true, Bool.false_or, decide_eq_true_eq] at hB
    rwa [wrap_i64 (by omega)] at hB
  obtain ⟨k, hk, rfl⟩ := mem_getD hxx
  have h1 : mg (xs.getD i 0) ≤ pw (-400) * pw (powerM xs).1 := by
    refine Rat.le_trans (Rat.le_of_lt (q3 _ ht)) ?_
    rw [← pw_add]
    exact pw_le (by omega)
  have h2 := mul2 h1 h1 hi'.mg0 (mulnn (pw_nn _) (pw_nn _))
  have h3 := mul2 p1 p1 (pw_nn _) (hx _ (getD_mem' hk)).mg0
  have h4 : mg (xs.getD k 0) * mg (xs.getD k 0) ≤ S := by
    rw [← vmul_nn (hx _ (getD_mem' hk)), ← hS]
    exact sm_pos_le (f := fun i => val (xs.getD i 0) * val (xs.getD i 0)) _ (fun _ _ => sqnn _) k hk
  have h5 := mull (Rat.le_trans h3 h4) (pw_nn (-800))
  refine Rat.le_trans h2 (Rat.le_trans (reqle ?_) h5)
  have : pw (-400) * pw (-400) = pw (-800) := by rw [← pw_add]; rfl
  grind
theorem triv_small : 1000 * pw (-800) ≤ u53 * u53 := by
  unfold u53
  have h : (1000 : Rat) ≤ pw 10 := by rw [pw_lit (n := 10) (k := 1024) (by decide) (by decide)]; exact ile (by decide)
  refine Rat.le_trans (mulr h (pw_nn _)) ?_
  rw [← pw_add, ← pw_add]
  exact pw_le (by decide)
def bL (b : Rat) (k : Nat) : List Rat := b :: List.replicate k 0
theorem bL_len (b : Rat) (k : Nat) : (bL b k).length = k + 1 := by simp [bL]
theorem bL_succ (b : Rat) (k : Nat) : bL b (k + 1) = bL b k ++ [0] := by
  unfold bL; rw [List.replicate_succ', List.cons_append]
theorem bL_get (b : Rat) (k i : Nat) : (bL b k).getD i 0 = if i = 0 then b else 0 := by
  cases i with
  | zero => rfl
  | succ i => rw [if_neg (by omega)]; simp [bL, List.getD_eq_getElem?_getD, List.getElem?_replicate]; split <;> rfl
theorem gens_law {xs : List Int} (hx : ∀ x ∈ xs, Fn x) (hl : xs.length ≤ 1000) (h0 : 0 < xs.length) (hf : (genK xs).2 = 0 ∨ (genK xs).2 = 1) :
    nearR (turnR (genV xs) (genT xs) (xs.map vx) xs.length) (bL (vx (genK xs).1) (xs.length - 1)) (32 * ((xs.length : Int) + 4)) (dotR (xs.map vx) (xs.map vx) xs.length) := by
  obtain ⟨n, hn⟩ : ∃ n, xs.length = n := ⟨_, rfl⟩
  have hxm : ∀ i, i < n → (xs.map vx).getD i 0 = val (xs.getD i 0) := fun i hi => by
    rw [map_vx_get (by omega)]; exact vx_fn (hx _ (getD_mem' (by omega)))
  have hlen := genV_len h0
  have hU0 : 0 ≤ ((32 * ((n : Int) + 4) : Int) : Rat) * u53 := mulnn (ile (a := 0) (by omega)) (Rat.le_of_lt u53_pos)
  have hU1 : u53 ≤ ((32 * ((n : Int) + 4) : Int) : Rat) * u53 := by
    have h1 : (1 : Rat) ≤ ((32 * ((n : Int) + 4) : Int) : Rat) := ile (a := 1) (by omega)
    have := mulr h1 (Rat.le_of_lt u53_pos)
    rwa [Rat.one_mul] at this
  have hX : dotR (xs.map vx) (xs.map vx) n = sm (fun i => val (xs.getD i 0) * val (xs.getD i 0)) n := dotR_eq hxm hxm
  have hX0 : 0 ≤ sm (fun i => val (xs.getD i 0) * val (xs.getD i 0)) n := sm_sq_nn _ _
  have key : ∃ d : Nat → Rat, (∀ i, i < n → (turnR (genV xs) (genT xs) (xs.map vx) n).getD i 0 - (bL (vx (genK xs).1) (n - 1)).getD i 0 = d i) ∧ Nm d n (((32 * ((n : Int) + 4) : Int) : Rat) * u53) (sm (fun i => val (xs.getD i 0) * val (xs.getD i 0)) n) := by
    by_cases hB : genB xs = true
    · refine ⟨fun i => if i = 0 then 0 else val (xs.getD i 0), fun i hi => ?_, hU0, ?_⟩
      · have ht : vx (genT xs) = 0 := by rw [genT_triv hB]; exact (vx_fn Fn.zero).trans val_z
        unfold turnR
        rw [getD_map_range _ hi, hxm i hi, ht, bL_get, genK_triv hB]
        by_cases hi0 : i = 0
        · subst hi0
          show _ = if (0 : Nat) = 0 then (0 : Rat) else val (xs.getD 0 0)
          rw [if_pos rfl, if_pos rfl, vx_fn (hx _ (getD_mem' (by omega)))]; grind
        · show _ = if i = 0 then (0 : Rat) else val (xs.getD i 0)
          rw [if_neg hi0, if_neg hi0]; grind
      · have hall : ∀ i, i < n → (if i = 0 then 0 else val (xs.getD i 0)) * (if i = 0 then 0 else val (xs.getD i 0)) ≤ pw (-800) * sm (fun i => val (xs.getD i 0) * val (xs.getD i 0)) n := fun i hi => by
          by_cases hi0 : i = 0
          · rw [if_pos hi0, Rat.zero_mul]; exact mulnn (pw_nn _) hX0
          · rw [if_neg hi0]
            have := triv_law hx hl h0 hB i ⟨by omega, by omega⟩
            rwa [hn] at this
        have h1 := sm_le n hall
        rw [sm_const] at h1
        generalize sm (fun i => val (xs.getD i 0) * val (xs.getD i 0)) n = X at h1 hX0
        have h2 : ((n : Int) : Rat) * (pw (-800) * X) ≤ 1000 * (pw (-800) * X) := mulr (ile (b := 1000) (by omega)) (mulnn (pw_nn _) hX0)
        have h3 := mulr triv_small hX0
        have h4 := mulr (mul2 hU1 hU1 (Rat.le_of_lt u53_pos) hU0) hX0
        grind
    · have hB' : genB xs = false := by simpa using hB
      obtain ⟨hb, hnm⟩ := near_law hx hl hB' hf
      have g := gen_near hx hl hB'
      have hvm : ∀ i, i < n → ((genV xs).map vx).getD i 0 = val ((genV xs).getD i 0) := fun i hi => by
        rw [map_vx_get (by omega)]; exact vx_fn (g.fv i (by omega))
      rw [hn] at hnm
      refine ⟨_, fun i hi => ?_, hnm⟩
      unfold turnR
      rw [getD_map_range _ hi, hxm i hi, vx_fn g.ft, hlen, hn, dotR_eq hvm hxm, vx_fn (g.fv i (by omega)), bL_get, vx_fn hb]
  rw [hn]
  obtain ⟨d, hd, hN⟩ := key
  have hdd : ∀ i, i < n → (difR (turnR (genV xs) (genT xs) (xs.map vx) n) (bL (vx (genK xs).1) (n - 1)) n).getD i 0 = d i := fun i hi => by
    unfold difR
    rw [getD_map_range _ hi, hd i hi]
  unfold nearR
  rw [turnR_len, dotR_eq hdd hdd, hX]
  refine Rat.le_trans hN.le (reqle ?_)
  show _ = _ * (((32 * ((n : Int) + 4) : Int) : Rat) * u53) * (((32 * ((n : Int) + 4) : Int) : Rat) * u53)
  grind
/-- What the law asks of the numbers, where something is reflected. -/
theorem gens_tau {xs : List Int} (hx : ∀ x ∈ xs, Fn x) (hl : xs.length ≤ 1000) (hB : genB xs = false) : 1 ≤ vx (genT xs) ∧ vx (genT xs) ≤ 2 ∧ (∀ i, i < xs.length → finiteM ((genV xs).getD i 0) = true ∧ ab (vx ((genV xs).getD i 0)) ≤ 1) ∧
    ab (vx (genT xs) * dotR ((genV xs).map vx) ((genV xs).map vx) xs.length - 2) ≤ ((32 * ((xs.length : Int) + 4) : Int) : Rat) * pw (-53) := by
  obtain ⟨n, σ, a0, nu, d, D, M, g⟩ := gen_full hx hl hB
  have gn := gen_near hx hl hB
  have hv : ∀ i, i < xs.length → vx ((genV xs).getD i 0) = val ((genV xs).getD i 0) := fun i hi => vx_fn (gn.fv i hi)
  have ht : vx (genT xs) = val (genT xs) := vx_fn gn.ft
  refine ⟨by rw [ht]; exact g.t1, by rw [ht]; exact g.t2, fun i hi => ⟨(gn.fv i hi).fin, ?_⟩, ?_⟩
  · rw [hv i hi, (gn.fv i hi).ab]; exact g.v1 i (by have := g.len; omega)
  · have hvm : ∀ i, i < xs.length → ((genV xs).map vx).getD i 0 = val ((genV xs).getD i 0) := fun i hi => by
      rw [map_vx_get (by rw [gn.len]; exact hi)]; exact hv i hi
    rw [dotR_eq hvm hvm, ht]
    have h1 := gn.near
    have h2 := h1.dist (mulnn (Rat.le_of_lt gn.pos) (sm_sq_nn _ _)) (by decide) (by omega)
    refine Rat.le_trans h2 ?_
    show _ ≤ _ * u53
    obtain ⟨m, hm⟩ : ∃ m, xs.length = m := ⟨_, rfl⟩
    rw [hm]
    have e1 : (((m + 11 : Nat) : Int) : Rat) = ((m : Int) : Rat) + 11 := by push_cast; grind
    have e2 : ((32 * ((m : Int) + 4) : Int) : Rat) = 32 * ((m : Int) : Rat) + 128 := by push_cast; grind
    rw [e1, e2]
    have := mulnn (nat_nn m) (Rat.le_of_lt u53_pos)
    have := u53_pos
    grind
end Go.Proofs.YtcikcinkjbbnhaaDoor.M
