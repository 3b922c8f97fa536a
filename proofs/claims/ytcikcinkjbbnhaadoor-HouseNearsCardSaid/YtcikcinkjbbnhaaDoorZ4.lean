/- The numbers of a reflection: tau times the square of v is near 2. -/
import Derived.Test.YtcikcinkjbbnhaaDoorZ3
set_option linter.unusedSimpArgs false
set_option linter.unusedVariables false
set_option maxHeartbeats 1000000
namespace Go.Proofs.YtcikcinkjbbnhaaDoor.M
open Go Go.Proofs

theorem ab_sub_ab (a b : Rat) : ab (ab a - ab b) ≤ ab (a - b) := by
  have h1 := ab_add (a - b) b
  have h2 := ab_add (b - a) a
  have h3 : ab (b - a) = ab (a - b) := by rw [← ab_neg]; congr 1; grind
  rw [show a - b + b = a by grind] at h1
  rw [show b - a + a = b by grind, h3] at h2
  exact ab_le.2 ⟨by grind, by grind⟩
theorem Fl.nba {x : Rat} {r : Int} (h : Fl x r) (hx : pw (-1022) ≤ ab x) : Nb 1 (mg r) (ab x) := by
  have h1 := h.rel hx
  have h2 := ab_sub_ab (val r) x
  rw [h.fn.ab] at h2
  exact nb_of_rel (ab_nn x) (Rat.le_trans h2 h1)
theorem Fl.erra {x : Rat} {r : Int} (h : Fl x r) : mg r ≤ (1 + u53) * ab x + eta ∧ (1 - u53) * ab x ≤ mg r + eta := by
  have h1 := h.err
  have h2 := ab_sub_ab (val r) x
  rw [h.fn.ab] at h2
  exact sq_err (ab_nn x) (Rat.le_trans h2 h1)
theorem sm_head (f : Nat → Rat) : ∀ n, sm f (n + 1) = f 0 + sm (fun i => f (i + 1)) n
  | 0 => by rw [sm, sm, sm]; grind
  | n + 1 => by rw [sm, sm_head f n, sm]; grind
theorem pw_small {x : Rat} (h : 1 / 1000000 ≤ x) : pw (-1022) ≤ x := by
  have h1 : pw (-1022) ≤ pw (-20) := pw_le (by decide)
  have h2 : pw (-20) ≤ 1 / 1000000 := by
    have := pw_neg 20
    rw [pw_lit (n := 20) (k := 1048576) (by decide) (by decide)] at this
    have h3 := pw_pos (-20)
    grind
  exact Rat.le_trans h1 (Rat.le_trans h2 h)
theorem sq_two {v q : Rat} (hv : 0 ≤ v) (hq : 0 ≤ q) (hq4 : q ≤ 4) (h1 : v ≤ (1 + u53) * q + eta) (h2 : (1 - u53) * q ≤ v + eta) : pk 2 * (v * v) ≤ q * q + 13 * eta ∧ pk 2 * (q * q) ≤ v * v + 13 * eta := by
  have u0 := u53_pos
  have u1 := u53_small
  have e0 := eta_pos
  have e1 := eta_small
  have ee : eta * eta ≤ 1 * eta := mulr (by grind) (Rat.le_of_lt e0)
  have hv5 : v ≤ 5 := by
    have : u53 * q ≤ 1 / 1000000000000 * 4 := mul2 u1 hq4 (Rat.le_of_lt u0) (by grind)
    grind
  have hqe : q * eta ≤ 4 * eta := mulr hq4 (Rat.le_of_lt e0)
  have hve : v * eta ≤ 5 * eta := mulr hv5 (Rat.le_of_lt e0)
  have hu1 : (0 : Rat) ≤ 1 - u53 := by grind
  have a : (1 - u53) * v ≤ q + eta := by
    have c := mull h1 hu1
    have c1 : 0 ≤ u53 * u53 * q := mulnn (mulnn (Rat.le_of_lt u0) (Rat.le_of_lt u0)) hq
    have c2 : 0 ≤ u53 * eta := mulnn (Rat.le_of_lt u0) (Rat.le_of_lt e0)
    grind
  have b := mul2 a a (mulnn hu1 hv) (by grind)
  have c := mul2 h2 h2 (mulnn hu1 hq) (by grind)
  rw [show pk 2 = (1 - u53) * (1 - u53) by rw [pk, pk, pk, Rat.one_mul]]
  constructor <;> grind
theorem div_sq {a d : Rat} (hd : d ≠ 0) : a / d * (a / d) = a * a / (d * d) := by
  have h1 : a / d * d = a := Rat.div_mul_cancel hd
  have hdd : d * d ≠ 0 := fun e => by rcases Rat.mul_eq_zero.1 e with h | h <;> exact hd h
  have h2 : a * a / (d * d) * (d * d) = a * a := Rat.div_mul_cancel hdd
  have h3 : (a / d * (a / d)) * (d * d) = a * a := by
    calc (a / d * (a / d)) * (d * d) = (a / d * d) * (a / d * d) := by grind
      _ = a * a := by rw [h1]
  have h4 : (a / d * (a / d) - a * a / (d * d)) * (d * d) = 0 := by grind
  rcases Rat.mul_eq_zero.1 h4 with h | h
  · grind
  · exact absurd h hdd
theorem sm_div (f : Nat → Rat) (d : Rat) (n : Nat) : sm (fun i => f i / d) n = sm f n / d := by
  have : sm (fun i => f i / d) n = sm (fun i => (1 / d) * f i) n := sm_congr n fun i _ => by rw [Rat.div_def, Rat.div_def]; grind
  rw [this, sm_mul, Rat.div_def, Rat.div_def]; grind
theorem sm_lin {c e : Rat} {f g : Nat → Rat} : ∀ n : Nat, (∀ i, i < n → c * f i ≤ g i + e) → c * sm f n ≤ sm g n + ((n : Int) : Rat) * e
  | 0, _ => by
    have e : (((0 : Nat) : Int) : Rat) = 0 := rfl
    rw [sm, sm, e]; grind
  | n + 1, h => by
    have a := sm_lin n (fun i hi => h i (by omega))
    have b := h n (by omega)
    have e : (((n + 1 : Nat) : Int) : Rat) = ((n : Int) : Rat) + 1 := by push_cast; rfl
    rw [sm, sm, e]; grind
theorem Nb.cancel {k : Nat} {x y z : Rat} (hz : 0 < z) (h : Nb k (x * z) (y * z)) : Nb k x y := by
  refine ⟨mulc ?_ hz, mulc ?_ hz⟩
  · rw [Rat.mul_assoc]; exact h.le
  · rw [Rat.mul_assoc]; exact h.ge
theorem ab_comm (a b : Rat) : ab (a - b) = ab (b - a) := by rw [← ab_neg]; congr 1; grind
theorem big30 {k : Int} (h : k ≤ 1073741824) : (k : Rat) ≤ pw 1023 := by
  have e : pw 30 = ((1073741824 : Int) : Rat) := pw_lit (k := 1073741824) (by decide) (by decide)
  refine Rat.le_trans (ile h) ?_
  rw [← e]; exact pw_le (by decide)
theorem big20 : (20000 : Rat) ≤ pw 1023 := big30 (k := 20000) (by decide)
theorem big40 : (40000 : Rat) ≤ pw 1023 := big30 (k := 40000) (by decide)
/-- The numbers of a reflection. -/
structure Gn (n : Nat) (V : List Int) (tau : Int) : Prop where
  len : V.length = n
  fv : ∀ i, i < n → Fn (V.getD i 0)
  ft : Fn tau
  one : val (V.getD 0 0) = 1
  pos : 0 < val tau
  near : Nb (n + 11) (val tau * sm (fun i => val (V.getD i 0) * val (V.getD i 0)) n) 2
theorem gen_near {xs : List Int} (hx : ∀ x ∈ xs, Fn x) (hl : xs.length ≤ 1000) (hB : genB xs = false) : Gn xs.length (genV xs) (genT xs) := by
  have hp : (powerM xs).2 = true := by
    unfold genB at hB
    cases h : (powerM xs).2
    · rw [h] at hB; simp at hB
    · rfl
  have ht : (powerM xs.tail).2 = true := by
    unfold genB at hB
    cases h : (powerM xs.tail).2
    · rw [h] at hB; simp at hB
    · rfl
  obtain ⟨M, hU⟩ := unit_val hx hp
  change Un xs (genU xs) M at hU
  obtain ⟨n, hn⟩ : ∃ n, xs.length = n + 1 := by
    cases xs with
    | nil => exfalso; revert hp; decide
    | cons x r => exact ⟨r.length, rfl⟩
  have hul : (genU xs).length = n + 1 := hU.len.trans hn
  have hu : ∀ i, i < (genU xs).length → Fn ((genU xs).getD i 0) ∧ mg ((genU xs).getD i 0) ≤ M := fun i hi => by
    rw [hU.len] at hi
    exact ⟨(hU.fl i hi).fn, hU.le i hi⟩
  have htop : ∃ i, i < (genU xs).length ∧ mg ((genU xs).getD i 0) = M := by
    obtain ⟨i, hi, h⟩ := hU.top
    exact ⟨i, by rw [hU.len]; exact hi, h⟩
  obtain ⟨n1, n2, n3, n4⟩ := nrm_val hu htop hU.lo hU.hi (by omega)
  have hsq := nrm_sq hu htop hU.lo hU.hi (by omega)
  have hM2 : M ≤ 2 := Rat.le_of_lt hU.hi
  generalize hue : genU xs = us at hul hu htop n1 n2 n3 n4 hsq
  obtain ⟨nu, hnu⟩ : ∃ nu, mg (nrm2M us) = nu := ⟨_, rfl⟩
  rw [hnu] at n2 n3 n4 hsq
  have hnu0 : 0 < nu := by grind
  have hnub : nu ≤ 10000 := Rat.le_trans n4 (ile (b := 10000) (by omega))
  have hus : ∀ i, i < n + 1 → Fn (us.getD i 0) ∧ mg (us.getD i 0) ≤ 2 := fun i hi => ⟨(hu i (by omega)).1, Rat.le_trans (hu i (by omega)).2 hM2⟩
  obtain ⟨f0, b0⟩ := hus 0 (by omega)
  obtain ⟨a0, ha0⟩ : ∃ a0, mg (us.getD 0 0) = a0 := ⟨_, rfl⟩
  rw [ha0] at b0
  have ha00 : 0 ≤ a0 := by rw [← ha0]; exact f0.mg0
  -- beta
  have hbeta : Fn (genBeta xs) ∧ mg (genBeta xs) = nu ∧ (val (us.getD 0 0) = -a0 ∧ val (genBeta xs) = nu ∨ val (us.getD 0 0) = a0 ∧ val (genBeta xs) = -nu) := by
    unfold genBeta
    rw [hue]
    cases hneg : negM (us.getD 0 0)
    · rw [if_neg (by decide)]
      refine ⟨n1.flip, by rw [flip_mg n1.inu n1.fin, hnu], .inr ⟨?_, by rw [flip_val' n1, n2]⟩⟩
      unfold val; rw [hneg, ha0]; simp [sgn]
    · rw [if_pos rfl]
      refine ⟨n1, hnu, .inl ⟨?_, n2⟩⟩
      unfold val; rw [hneg, ha0]; simp [sgn, Rat.neg_mul]
  obtain ⟨fb, mb, hab⟩ := hbeta
  generalize hbe : genBeta xs = be at fb mb hab
  have hD : ab (val (us.getD 0 0) - val be) = a0 + nu := by
    rcases hab with ⟨e1, e2⟩ | ⟨e1, e2⟩
    · rw [e1, e2, show -a0 - nu = -(a0 + nu) by grind, ab_neg, ab_of (by grind)]
    · rw [e1, e2, show a0 - -nu = a0 + nu by grind, ab_of (by grind)]
  obtain ⟨D, hDe⟩ : ∃ D, a0 + nu = D := ⟨_, rfl⟩
  rw [hDe] at hD
  have hD1 : 1 ≤ D := by grind
  have hDb : D ≤ 20000 := by grind
  have flD : Fl (val (us.getD 0 0) - val be) (genD xs) := by
    unfold genD
    rw [hue, hbe]
    exact fl_sub f0 fb (by rw [hD]; exact Rat.le_trans hDb big20)
  have nbD := flD.nba (by rw [hD]; exact pw_small (by grind))
  rw [hD] at nbD
  obtain ⟨d, hd⟩ : ∃ d, mg (genD xs) = d := ⟨_, rfl⟩
  rw [hd] at nbD
  have u0 := u53_pos
  have u1 := u53_small
  have hd1 : 1 / 2 ≤ d := by
    have h1 := nbD.ge
    have h2 := mull hD1 (Rat.le_of_lt (pk_pos 1))
    have h3 := pk_half (k := 1) (by decide)
    grind
  have hd0 : d ≠ 0 := by grind
  -- tau
  have hE : ab (val be - val (us.getD 0 0)) = D := by rw [← hD]; exact ab_comm _ _
  have flE := fl_sub fb f0 (by rw [hE]; exact Rat.le_trans hDb big20)
  have nbE := flE.nba (by rw [hE]; exact pw_small (by grind))
  rw [hE] at nbE
  have hEsgn : val (addM be (flipM (us.getD 0 0))).1 / val be = mg (addM be (flipM (us.getD 0 0))).1 / nu := by
    have hcan : ∀ x : Rat, -x / -nu = x / nu := fun x => by
      have hnn : nu ≠ 0 := by grind
      have hnn2 : -nu ≠ 0 := by grind
      have e1 : -x / -nu * -nu = -x := Rat.div_mul_cancel hnn2
      have e2 : x / nu * nu = x := Rat.div_mul_cancel hnn
      have e3 : (-x / -nu - x / nu) * nu = 0 := by grind
      rcases Rat.mul_eq_zero.1 e3 with h | h
      · grind
      · exact absurd h hnn
    rcases hab with ⟨e1, e2⟩ | ⟨e1, e2⟩
    · rcases flE.sign with ⟨s, _⟩ | ⟨_, s⟩ | s
      · rw [s, e2]
      · rw [e1, e2] at s; exfalso; grind
      · rw [e1, e2] at s; exfalso; grind
    · rcases flE.sign with ⟨_, s⟩ | ⟨s, _⟩ | s
      · rw [e1, e2] at s; exfalso; grind
      · rw [s, e2, hcan]
      · rw [e1, e2] at s; exfalso; grind
  have htau : genT xs = (divM (addM be (flipM (us.getD 0 0))).1 be).1 := by
    unfold genT
    rw [if_neg (by rw [hB]; decide)]
    unfold genTau
    rw [hue, hbe]
  generalize (addM be (flipM (us.getD 0 0))).1 = E at flE nbE hEsgn htau
  have hE1 : 1 / 2 ≤ mg E := by
    have h1 := nbE.ge
    have h2 := mull hD1 (Rat.le_of_lt (pk_pos 1))
    have h3 := pk_half (k := 1) (by decide)
    grind
  have hEb : mg E ≤ 40000 := by
    have h1 := nbE.le
    have h2 := mulr (pk_half (k := 1) (by decide)) (show 0 ≤ mg E by grind)
    grind
  have hq0 : 0 ≤ mg E / nu := div_nn (by grind) hnu0
  have hqb : mg E / nu ≤ 40000 := Rat.le_trans (div_le_of (by grind) n3) hEb
  have flT := fl_div flE.fn fb (by rw [mb]; grind) (by rw [mb]; exact Rat.le_trans hqb big40)
  rw [hEsgn] at flT
  have hqlo : 1 / 1000000 ≤ mg E / nu := by
    have h1 : mg E / nu * nu = mg E := Rat.div_mul_cancel (by grind)
    have h2 : mg E / nu * nu ≤ mg E / nu * 10000 := mull hnub hq0
    grind
  have nbT := flT.nba (by rw [ab_of hq0]; exact pw_small hqlo)
  rw [ab_of hq0] at nbT
  have hvT : val (genT xs) = mg (genT xs) := by rw [htau]; exact flT.nn hq0
  rw [← htau] at flT nbT
  have hT : Nb 2 (mg (genT xs)) (D / nu) := by
    have := nbT.trans (nbE.div (Nb.refl nu) flE.fn.mg0 (by grind) hnu0 hnu0)
    exact this
  -- the quotients
  have hV : genV xs = genL xs n := by
    unfold genV
    rw [if_neg (by rw [hB]; decide), hn]; rfl
  have hv0 : (genV xs).getD 0 0 = 4607182418800017408 := by rw [hV]; rfl
  have hvi : ∀ i, i < n → (genV xs).getD (i + 1) 0 = (divM (us.getD (i + 1) 0) (genD xs)).1 := fun i hi => by
    rw [hV, genL, hue, List.getD_cons_succ]
    simp [List.getD_eq_getElem?_getD, hi, Nat.add_comm]
  have hqi : ∀ i, i < n → 0 ≤ mg (us.getD (i + 1) 0) / d ∧ mg (us.getD (i + 1) 0) / d ≤ 4 := fun i hi => by
    obtain ⟨g, g2⟩ := hus (i + 1) (by omega)
    have h1 : mg (us.getD (i + 1) 0) / d * d = mg (us.getD (i + 1) 0) := Rat.div_mul_cancel hd0
    have h0 := div_nn g.mg0 (show 0 < d by grind)
    refine ⟨h0, ?_⟩
    have h2 := mull hd1 h0
    grind
  have hflv : ∀ i, i < n → Fl (val (us.getD (i + 1) 0) / val (genD xs)) ((genV xs).getD (i + 1) 0) := fun i hi => by
    rw [hvi i hi]
    have := (hqi i hi).2
    refine fl_div (hus (i + 1) (by omega)).1 flD.fn (by rw [hd]; exact hd0) (by rw [hd]; exact Rat.le_trans this (big30 (k := 4) (by decide)))
  have hvsq : ∀ i, i < n → pk 2 * (val ((genV xs).getD (i + 1) 0) * val ((genV xs).getD (i + 1) 0)) ≤ mg (us.getD (i + 1) 0) / d * (mg (us.getD (i + 1) 0) / d) + 13 * eta ∧ pk 2 * (mg (us.getD (i + 1) 0) / d * (mg (us.getD (i + 1) 0) / d)) ≤ val ((genV xs).getD (i + 1) 0) * val ((genV xs).getD (i + 1) 0) + 13 * eta := fun i hi => by
    have h1 := (hflv i hi).erra
    rw [ab_div (hus (i + 1) (by omega)).1 flD.fn (by rw [hd]; exact hd0), hd] at h1
    rw [vmul_nn (hflv i hi).fn]
    exact sq_two (hflv i hi).fn.mg0 (hqi i hi).1 (hqi i hi).2 h1.1 h1.2
  obtain ⟨w, hw⟩ : ∃ w, sm (fun i => val ((genV xs).getD (i + 1) 0) * val ((genV xs).getD (i + 1) 0)) n = w := ⟨_, rfl⟩
  obtain ⟨T, hTe⟩ : ∃ T, sm (fun i => mg (us.getD (i + 1) 0) * mg (us.getD (i + 1) 0)) n = T := ⟨_, rfl⟩
  have hT0 : 0 ≤ T := by rw [← hTe]; exact sm_sq_nn _ _
  have hw0 : 0 ≤ w := by rw [← hw]; exact sm_sq_nn _ _
  have hQ : sm (fun i => mg (us.getD (i + 1) 0) / d * (mg (us.getD (i + 1) 0) / d)) n = T / (d * d) := by
    rw [← hTe, ← sm_div]
    exact sm_congr n fun i _ => div_sq hd0
  have hA := sm_lin (c := pk 2) (e := 13 * eta) n (fun i hi => (hvsq i hi).1)
  have hB2 := sm_lin (c := pk 2) (e := 13 * eta) n (fun i hi => (hvsq i hi).2)
  rw [hw, hQ] at hA hB2
  have hdd : 0 < d * d := Rat.mul_pos (by grind) (by grind)
  have hDD : 0 < D * D := Rat.mul_pos (by grind) (by grind)
  have hQ0 : 0 ≤ T / (d * d) := div_nn hT0 hdd
  have hR0 : 0 ≤ T / (D * D) := div_nn hT0 hDD
  have es := eta_small
  have ep := eta_pos
  have hne : ((n : Int) : Rat) * (13 * eta) ≤ 1000 * (13 * eta) := mulr (ile (b := 1000) (by omega)) (by grind)
  have hn0 : 0 ≤ ((n : Int) : Rat) * (13 * eta) := mulnn (nat_nn _) (by grind)
  have hnbd : (((n : Int) : Rat) * (13 * eta)) * 2 ≤ u53 := by grind
  have nb3 : Nb 3 (1 + w) (1 + T / (d * d)) := by
    generalize ((n : Int) : Rat) * (13 * eta) = dd at hA hB2 hn0 hnbd
    have p2 := pk_le 2
    refine nb_slack (k := 2) (d := dd) (by grind) (by grind) ?_ ?_ hn0 (by grind) (pk_half (by decide))
    · rw [Rat.mul_add, Rat.mul_one]; grind
    · rw [Rat.mul_add, Rat.mul_one]; grind
  have nbdd := nbD.mul nbD (by grind) (by grind) (by grind) (by grind)
  have nbQ : Nb 2 (1 + T / (d * d)) (1 + T / (D * D)) := by
    have h1 := (Nb.refl T).div nbdd hT0 hT0 hdd hDD
    exact ((Nb.refl (1 : Rat)).mono (by decide) (by grind) (by grind)).add h1
  have nbN := nb3.trans nbQ
  have hN : sm (fun i => val ((genV xs).getD i 0) * val ((genV xs).getD i 0)) (n + 1) = 1 + w := by
    rw [sm_head, hw, hv0]
    have : val 4607182418800017408 = 1 := by
      rcases val_ab Fn.one with e | e
      · rw [e, mg_one]
      · exfalso
        have h1 : val 4607182418800017408 = sgn (negM 4607182418800017408) * mg 4607182418800017408 := rfl
        rw [show negM 4607182418800017408 = false by decide, mg_one] at h1
        rw [e, mg_one] at h1
        simp [sgn] at h1
        grind
    rw [this]; grind
  have hv1 : val ((genV xs).getD 0 0) = 1 := by
    rw [hv0]
    have h1 : val 4607182418800017408 = sgn (negM 4607182418800017408) * mg 4607182418800017408 := rfl
    rw [h1, show negM 4607182418800017408 = false by decide, mg_one]
    simp [sgn]
  have hDnu : 0 < D / nu := by
    have h1 : D / nu * nu = D := Rat.div_mul_cancel (by grind)
    rcases Rat.le_total (a := D / nu) (b := 0) with h | h
    · exfalso
      have := mulr h (Rat.le_of_lt hnu0)
      grind
    · by_cases e : D / nu = 0
      · exfalso; rw [e] at h1; grind
      · exact lt_of_le_ne h (fun x => e x.symm)
  have hmt0 := flT.fn.mg0
  have nbTN := hT.mul nbN hmt0 (Rat.le_of_lt hDnu) (by grind) (by grind)
  have hS : sm (fun i => val (us.getD i 0) * val (us.getD i 0)) us.length = a0 * a0 + T := by
    rw [hul, sm_head, vmul_nn f0, ha0, ← hTe]
    congr 1
    exact sm_congr n fun i hi => vmul_nn (hus (i + 1) (by omega)).1
  rw [hS, hul] at hsq
  have hc0 : 0 ≤ 2 * a0 * nu + nu * nu := by
    have := mulnn ha00 (Rat.le_of_lt hnu0)
    have := sqnn nu
    grind
  have nbG : Nb (n + 5) (D / nu * (1 + T / (D * D))) 2 := by
    refine Nb.cancel (z := nu * D) (Rat.mul_pos hnu0 (by grind)) ?_
    have e1 : D / nu * (1 + T / (D * D)) * (nu * D) = a0 * a0 + T + (2 * a0 * nu + nu * nu) := by
      have h1 : D / nu * nu = D := Rat.div_mul_cancel (by grind)
      have h2 : T / (D * D) * (D * D) = T := Rat.div_mul_cancel (by grind)
      calc D / nu * (1 + T / (D * D)) * (nu * D) = (D / nu * nu) * D + (D / nu * nu) * D * (T / (D * D)) := by grind
        _ = D * D + T / (D * D) * (D * D) := by rw [h1]; grind
        _ = a0 * a0 + T + (2 * a0 * nu + nu * nu) := by rw [h2, ← hDe]; grind
    have e2 : (2 : Rat) * (nu * D) = nu * nu + (2 * a0 * nu + nu * nu) := by rw [← hDe]; grind
    rw [e1, e2]
    exact hsq.symm.add ((Nb.refl _).mono (by omega) hc0 hc0)
  have hfinal := nbTN.trans nbG
  rw [show 2 + (3 + 2) + (n + 5) = n + 1 + 11 by omega] at hfinal
  refine ⟨?_, ?_, flT.fn, hv1, ?_, ?_⟩
  · rw [genV_len (by omega)]
  · intro i hi
    rw [hn] at hi
    cases i with
    | zero => rw [hv0]; exact Fn.one
    | succ i => exact (hflv i (by omega)).fn
  · rw [hvT]
    have := hT.ge
    have := Rat.mul_pos (pk_pos 2) hDnu
    grind
  · rw [hn, hN, hvT]
    exact hfinal
end Go.Proofs.YtcikcinkjbbnhaaDoor.M
