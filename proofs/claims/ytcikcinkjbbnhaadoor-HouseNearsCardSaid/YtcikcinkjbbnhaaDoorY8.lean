/- The greatest of some numbers, numbers divided by a power of two, the root of the sum of squares. -/
import Derived.Test.YtcikcinkjbbnhaaDoorY7
set_option linter.unusedSimpArgs false
set_option linter.unusedVariables false
set_option maxRecDepth 10000
set_option maxHeartbeats 400000
namespace Go.Proofs.YtcikcinkjbbnhaaDoor.M
open Go Go.Proofs

theorem great_val : ∀ (l : List Int) (i best at_ : Int), (∀ x ∈ l, Fn x) → Fn best → absM best = best → (at_ < 0 → best = 0) → 0 ≤ i →
    Fn (greatL l i best at_).1 ∧ mg best ≤ mg (greatL l i best at_).1 ∧ (∀ x ∈ l, mg x ≤ mg (greatL l i best at_).1) ∧ (mg (greatL l i best at_).1 = mg best ∨ ∃ x ∈ l, mg (greatL l i best at_).1 = mg x)
  | [], i, best, at_, _, hb, _, _, _ => ⟨hb, Rat.le_refl, fun x hx => (by cases hx), .inl rfl⟩
  | b :: l, i, best, at_, hl, hb, ha, hat, hi => by
    have hbb := hl b (List.mem_cons_self ..)
    have habs := abs_fn hbb
    unfold greatL
    rw [if_neg (fin_kk hbb.fin).1]
    by_cases hc : at_ < 0 ∨ best < absM b
    · rw [if_pos hc]
      obtain ⟨g1, g2, g3, g4⟩ := great_val l (i + 1) (absM b) i (fun x hx => hl x (List.mem_cons_of_mem _ hx)) habs.1 (absM_abs hbb.inu) (fun h => by omega) (by omega)
      have hle : mg best ≤ mg (absM b) := by
        rcases hc with h | h
        · rw [hat h, mg_z]; exact habs.1.mg0
        · refine ab_ord hb habs.1 ?_
          rw [ha, absM_abs hbb.inu]; omega
      refine ⟨g1, Rat.le_trans hle g2, fun x hx => ?_, ?_⟩
      · rcases List.mem_cons.1 hx with rfl | hx
        · rw [← habs.2]; exact g2
        · exact g3 x hx
      · right
        rcases g4 with h | ⟨x, hx, h⟩
        · exact ⟨b, List.mem_cons_self .., by rw [h, habs.2]⟩
        · exact ⟨x, List.mem_cons_of_mem _ hx, h⟩
    · rw [if_neg hc]
      obtain ⟨g1, g2, g3, g4⟩ := great_val l (i + 1) best at_ (fun x hx => hl x (List.mem_cons_of_mem _ hx)) hb ha hat (by omega)
      refine ⟨g1, g2, fun x hx => ?_, ?_⟩
      · rcases List.mem_cons.1 hx with rfl | hx
        · refine Rat.le_trans ?_ g2
          refine ab_ord hbb hb ?_
          rw [ha]; omega
        · exact g3 x hx
      · rcases g4 with h | ⟨x, hx, h⟩
        · exact .inl h
        · exact .inr ⟨x, List.mem_cons_of_mem _ hx, h⟩
/-- The power of two beneath the greatest. -/
theorem power_val {xs : List Int} (hx : ∀ x ∈ xs, Fn x) : ((powerM xs).2 = false ∧ (powerM xs).1 = 0 ∧ ∀ x ∈ xs, mg x = 0) ∨
    ((powerM xs).2 = true ∧ (∃ x ∈ xs, pw (powerM xs).1 ≤ mg x ∧ ∀ y ∈ xs, mg y ≤ mg x) ∧ (∀ x ∈ xs, mg x < pw ((powerM xs).1 + 1)) ∧ -1074 ≤ (powerM xs).1 ∧ (powerM xs).1 ≤ 1023) := by
  obtain ⟨g1, g2, g3, g4⟩ := great_val xs 0 0 (-1) hx Fn.zero (by decide) (fun _ => rfl) (by decide)
  have hg : greatM xs = greatL xs 0 0 (-1) := rfl
  rw [← hg] at g1 g2 g3 g4
  have pa := parts53 g1.inu
  have ea := part_e g1.inu g1.fin
  unfold powerM
  by_cases h0 : (partsM (greatM xs).1).1 = 0
  · left
    rw [if_pos h0]
    have hz : mg (greatM xs).1 = 0 := by unfold mg; rw [h0, Rat.intCast_zero, Rat.zero_mul]
    refine ⟨rfl, rfl, fun x hxx => ?_⟩
    have h1 := g3 x hxx
    have h2 := (hx x hxx).mg0
    rw [hz] at h1
    exact Rat.le_antisymm h1 h2
  · right
    rw [if_neg h0]
    have e64 : (2 : Int) ^ 64 = 18446744073709551616 := by decide
    obtain ⟨p1, p2, p3, p4⟩ := powE_val 64 (partsM (greatM xs).1).1 (partsM (greatM xs).1).2 (parts_in g1.inu) (by omega) (by omega) (by omega) (by omega)
    have hmg : mg (greatM xs).1 = ((partsM (greatM xs).1).1 : Rat) * pw (partsM (greatM xs).1).2 := rfl
    rw [← hmg] at p1 p2
    dsimp only
    refine ⟨rfl, ?_, fun x hxx => lelt (g3 x hxx) p2, by omega, ?_⟩
    · rcases g4 with h | ⟨x, hxx, h⟩
      · exfalso
        rw [mg_z] at h
        rw [h] at p1
        have := pw_pos (powE 64 (partsM (greatM xs).1).1 (partsM (greatM xs).1).2)
        grind
      · exact ⟨x, hxx, by rw [← h]; exact p1, fun y hy => by rw [← h]; exact g3 y hy⟩
    · have h1 := mg_lt g1.inu g1.fin
      have h2 := pw_inv (lelt p1 h1)
      omega

/-- A number divided by the power of two beneath the greatest: it isn't greater than the greatest so divided, which is told just so. -/
theorem rep_down {b : Int} (hb : Fn b) {e : Int} (h : pw e ≤ mg b) : Rep (mg b * pw (-e)) := by
  have pa := parts53 hb.inu
  have ea := part_e hb.inu hb.fin
  refine ⟨(partsM b).1, (partsM b).2 - e, pa.1, pa.2, ?_, ?_⟩
  · have h1 : ((partsM b).1 : Rat) < (9007199254740992 : Rat) := ilt pa.2
    have h2 := mulrl h1 (pw_pos (partsM b).2)
    have h3 := pw53 (partsM b).2
    have h4 : pw e < pw ((partsM b).2 + 53) := by
      rw [h3]; exact lelt h h2
    have := pw_inv h4
    omega
  · unfold mg
    rw [show (partsM b).2 - e = (partsM b).2 + -e by omega, pw_add, Rat.mul_assoc]
theorem Fl.nn {x : Rat} {r : Int} (h : Fl x r) (hx : 0 ≤ x) : val r = mg r := by
  rcases h.sign with ⟨e, _⟩ | ⟨e, h1⟩ | e
  · exact e
  · have h0 : x = 0 := Rat.le_antisymm h1 hx
    have : mg r ≤ 0 := h.up 0 rep_zero (by rw [h0, ab_zero]; exact Rat.le_refl)
    have := h.fn.mg0
    have : mg r = 0 := Rat.le_antisymm (by assumption) (by assumption)
    rw [e, this]; simp
  · have : mg r ≤ 0 := h.up 0 rep_zero (by rw [e, ab_zero]; exact Rat.le_refl)
    have h0 : mg r = 0 := Rat.le_antisymm this h.fn.mg0
    rcases val_ab h.fn with e2 | e2 <;> rw [e2, h0] <;> simp
theorem Fl.exact {x : Rat} {r : Int} (h : Fl x r) (hr : Rep (ab x)) : mg r = ab x := Rat.le_antisymm (h.up _ hr Rat.le_refl) (h.dn _ hr Rat.le_refl)
theorem Fl.value {x : Rat} {r : Int} (h : Fl x r) (hr : Rep (ab x)) : val r = x := by
  have e := h.exact hr
  rcases h.sign with ⟨e1, h1⟩ | ⟨e1, h1⟩ | e1
  · rw [e1, e, ab_of h1]
  · rw [e1, e, ← ab_neg, ab_of (by grind)]; grind
  · rw [e1, ab_zero] at e
    rcases val_ab h.fn with e2 | e2 <;> rw [e2, e, e1] <;> simp
theorem clamp2_id {e : Int} (h : -20000 < e ∧ e ≤ 20000) : clamp2 e = e := by
  unfold clamp2
  rw [if_neg (by omega : ¬ (20000 : Int) < e), if_pos (by omega)]
theorem unit_get {xs : List Int} {e : Int} (he : -1900 ≤ e ∧ e ≤ 1900) {i : Nat} (hi : i < xs.length) : (unitL xs e).getD i 0 = (scaleM (xs.getD i 0) (-e)).1 := by
  unfold unitL
  rw [clamp2_id (by omega), wrap_i64 (by omega), List.getD_eq_getElem?_getD, List.getElem?_map, List.getElem?_range hi]
  show (scaleM (xs.getD i 0) (0 - e)).1 = _
  rw [Int.zero_sub]
theorem getD_mem' {xs : List Int} {i : Nat} (hi : i < xs.length) : xs.getD i 0 ∈ xs := by
  rw [List.getD_eq_getElem?_getD, List.getElem?_eq_getElem hi]; exact List.getElem_mem hi
theorem mem_getD {xs : List Int} {x : Int} (h : x ∈ xs) : ∃ i, i < xs.length ∧ xs.getD i 0 = x := by
  obtain ⟨i, hi, rfl⟩ := List.getElem_of_mem h
  exact ⟨i, hi, by rw [List.getD_eq_getElem?_getD, List.getElem?_eq_getElem hi]; rfl⟩
/-- A list divided by the power of two beneath its greatest number. -/
structure Un (xs us : List Int) (M : Rat) : Prop where
  len : us.length = xs.length
  fl : ∀ i, i < xs.length → Fl (val (xs.getD i 0) * pw (-(powerM xs).1)) (us.getD i 0)
  le : ∀ i, i < xs.length → mg (us.getD i 0) ≤ M
  top : ∃ i, i < xs.length ∧ mg (us.getD i 0) = M
  lo : 1 ≤ M
  hi : M < 2
theorem unit_val {xs : List Int} (hx : ∀ x ∈ xs, Fn x) (hp : (powerM xs).2 = true) : ∃ M, Un xs (unitL xs (powerM xs).1) M := by
  rcases power_val hx with ⟨h, _⟩ | ⟨_, ⟨x, hxx, h1, h2⟩, h3, h4, h5⟩
  · rw [h] at hp; cases hp
  obtain ⟨k, hk, rfl⟩ := mem_getD hxx
  obtain ⟨e, he⟩ : ∃ e, (powerM xs).1 = e := ⟨_, rfl⟩
  rw [he] at h1 h3 h4 h5
  have hpe : pw e * pw (-e) = 1 := by rw [Rat.mul_comm]; exact pw_neg e
  have hfl : ∀ i, i < xs.length → Fl (val (xs.getD i 0) * pw (-e)) ((unitL xs e).getD i 0) := fun i hi => by
    rw [unit_get (by omega) hi]
    refine fl_scale (hx _ (getD_mem' hi)) (by omega) ?_
    have := mulr (Rat.le_of_lt (h3 _ (getD_mem' hi))) (pw_nn (-e))
    refine Rat.le_trans this ?_
    rw [pw_succ, Rat.mul_assoc, hpe]
    have : pw 1 ≤ pw 1023 := pw_le (by decide)
    rw [pw_one] at this
    rw [Rat.mul_one]; exact this
  have hab : ∀ i, i < xs.length → ab (val (xs.getD i 0) * pw (-e)) = mg (xs.getD i 0) * pw (-e) := fun i hi => by
    rw [ab_mul, (hx _ (getD_mem' hi)).ab, ab_of (pw_nn _)]
  have hM := rep_down (hx _ (getD_mem' hk)) h1
  rw [he]
  refine ⟨mg (xs.getD k 0) * pw (-e), unitL_len _ _, by rw [he]; exact hfl, fun i hi => ?_, ⟨k, hk, ?_⟩, ?_, ?_⟩
  · refine (hfl i hi).up _ hM ?_
    rw [hab i hi]
    exact mulr (h2 _ (getD_mem' hi)) (pw_nn _)
  · have := (hfl k hk).exact (by rw [hab k hk]; exact hM)
    rw [this, hab k hk]
  · have := mulr h1 (pw_nn (-e))
    rw [hpe] at this; exact this
  · have := mulrl (h3 _ (getD_mem' hk)) (pw_pos (-e))
    rw [pw_succ, Rat.mul_assoc, hpe] at this
    rw [Rat.mul_one] at this; exact this
theorem rep_int {k : Int} (h : 0 ≤ k ∧ k < 9007199254740992) : Rep ((k : Int) : Rat) := ⟨k, 0, h.1, h.2, by decide, by rw [pw_zero, Rat.mul_one]⟩

/-- Sums of squares of numbers that are less than 2. -/
theorem sqs_val {us : List Int} (hu : ∀ i, i < us.length → Fn (us.getD i 0) ∧ mg (us.getD i 0) ≤ 2) (hl : us.length ≤ 1000000) : ∀ n : Nat, n ≤ us.length →
    Fn (sqsS us n).1 ∧ val (sqsS us n).1 = mg (sqsS us n).1 ∧ mg (sqsS us n).1 ≤ ((4 * (n : Int) : Int) : Rat) ∧ ∀ i, i < n → mg (mulM (us.getD i 0) (us.getD i 0)).1 ≤ mg (sqsS us n).1 ∧ Fl (val (us.getD i 0) * val (us.getD i 0)) (mulM (us.getD i 0) (us.getD i 0)).1
  | 0, _ => by
    refine ⟨Fn.zero, ?_, ?_, fun i hi => by omega⟩
    · show val 0 = mg 0; rw [val_z, mg_z]
    · show mg 0 ≤ _; rw [mg_z]; exact ile (a := 0) (by decide)
  | n + 1, hn => by
    obtain ⟨s1, s2, s3, s4⟩ := sqs_val hu hl n (by omega)
    obtain ⟨u1, u2⟩ := hu n (by omega)
    have hsq : mg (us.getD n 0) * mg (us.getD n 0) ≤ 4 := by
      have := mul2 u2 u2 u1.mg0 (by decide)
      refine Rat.le_trans this (reqle ?_); grind
    have h4 : (4 : Rat) ≤ pw 1023 := by
      have e : pw 2 = (4 : Rat) := pw_lit (k := 4) (by decide) (by decide)
      rw [← e]; exact pw_le (by decide)
    have hm := fl_mul u1 u1 (Rat.le_trans hsq h4)
    have hmv : val (us.getD n 0) * val (us.getD n 0) = mg (us.getD n 0) * mg (us.getD n 0) := by
      rcases val_ab u1 with e | e <;> rw [e] <;> grind
    have hmn := hm.nn (by rw [hmv]; exact mulnn u1.mg0 u1.mg0)
    have hm4 : mg (mulM (us.getD n 0) (us.getD n 0)).1 ≤ 4 := hm.up 4 (rep_int (k := 4) (by decide)) (by rw [hmv, ab_of (mulnn u1.mg0 u1.mg0)]; exact hsq)
    have hsum0 : 0 ≤ val (sqsS us n).1 + val (mulM (us.getD n 0) (us.getD n 0)).1 := by
      rw [s2, hmn]
      have := s1.mg0
      have := hm.fn.mg0
      grind
    have hsumle : val (sqsS us n).1 + val (mulM (us.getD n 0) (us.getD n 0)).1 ≤ ((4 * ((n + 1 : Nat) : Int) : Int) : Rat) := by
      rw [s2, hmn]
      have e : ((4 * ((n + 1 : Nat) : Int) : Int) : Rat) = ((4 * (n : Int) : Int) : Rat) + 4 := by push_cast; grind
      rw [e]; grind
    have hrep : Rep ((4 * ((n + 1 : Nat) : Int) : Int) : Rat) := rep_int (by omega)
    have hbnd : ((4 * ((n + 1 : Nat) : Int) : Int) : Rat) ≤ pw 1023 := by
      have e : pw 30 = ((1073741824 : Int) : Rat) := pw_lit (k := 1073741824) (by decide) (by decide)
      refine Rat.le_trans (ile (show 4 * ((n + 1 : Nat) : Int) ≤ 1073741824 by omega)) ?_
      rw [← e]; exact pw_le (by decide)
    have ha := fl_add s1 hm.fn (by rw [ab_of hsum0]; exact Rat.le_trans hsumle hbnd)
    have e1 : (sqsS us (n + 1)).1 = (addM (sqsS us n).1 (mulM (us.getD n 0) (us.getD n 0)).1).1 := rfl
    rw [e1]
    refine ⟨ha.fn, ha.nn hsum0, ha.up _ hrep (by rw [ab_of hsum0]; exact hsumle), fun i hi => ?_⟩
    have hab := ab_of hsum0
    rcases Nat.lt_or_ge i n with h | h
    · obtain ⟨g1, g2⟩ := s4 i h
      refine ⟨?_, g2⟩
      refine Rat.le_trans g1 (ha.dn _ s1.rep ?_)
      rw [hab, s2, hmn]
      have := hm.fn.mg0
      grind
    · have : i = n := by omega
      subst this
      refine ⟨ha.dn _ hm.fn.rep ?_, hm⟩
      rw [hab, s2, hmn]
      have := s1.mg0
      grind
/-- The root of the sum of squares of numbers of which the greatest is 1 at least, and less than 2. -/
theorem nrm_val {us : List Int} {M : Rat} (hu : ∀ i, i < us.length → Fn (us.getD i 0) ∧ mg (us.getD i 0) ≤ M) (htop : ∃ i, i < us.length ∧ mg (us.getD i 0) = M) (h1 : 1 ≤ M) (h2 : M < 2) (hl : us.length ≤ 1000000) :
    Fn (nrm2M us) ∧ val (nrm2M us) = mg (nrm2M us) ∧ 1 ≤ mg (nrm2M us) ∧ mg (nrm2M us) ≤ ((2 * (us.length : Int) : Int) : Rat) := by
  have hx : ∀ x ∈ us, Fn x := fun x hx => by
    obtain ⟨i, hi, rfl⟩ := mem_getD hx
    exact (hu i hi).1
  obtain ⟨k, hk, hkM⟩ := htop
  rcases power_val hx with ⟨_, _, h⟩ | ⟨hp, ⟨x, hxx, p1, p2⟩, p3, p4, p5⟩
  · exfalso
    have := h _ (getD_mem' hk)
    rw [hkM] at this
    grind
  have he : (powerM us).1 = 0 := by
    obtain ⟨i, hi, rfl⟩ := mem_getD hxx
    have a1 : pw (powerM us).1 < pw 1 := by rw [pw_one]; exact lelt p1 (lelt (hu i hi).2 h2)
    have a2 : pw 0 < pw ((powerM us).1 + 1) := by rw [pw_zero]; exact lelt h1 (by rw [← hkM]; exact p3 _ (getD_mem' hk))
    have := pw_inv a1
    have := pw_inv a2
    omega
  have hW : ∀ i, i < us.length → Fl (val (us.getD i 0)) ((unitL us 0).getD i 0) := fun i hi => by
    rw [unit_get (by decide) hi]
    have h0 := fl_scale (a := us.getD i 0) (n := -0) (hu i hi).1 (by decide) (by
      rw [show (-0 : Int) = 0 by decide, pw_zero, Rat.mul_one]
      refine Rat.le_trans (hu i hi).2 (Rat.le_trans (Rat.le_of_lt h2) ?_)
      rw [← pw_one]; exact pw_le (by decide))
    have e0 : (-0 : Int) = 0 := by decide
    rw [e0, pw_zero, Rat.mul_one] at h0
    exact h0
  have hWm : ∀ i, i < us.length → mg ((unitL us 0).getD i 0) = mg (us.getD i 0) := fun i hi => by
    rw [(hW i hi).exact (by rw [(hu i hi).1.ab]; exact (hu i hi).1.rep), (hu i hi).1.ab]
  have hlen := unitL_len us 0
  obtain ⟨s1, s2, s3, s4⟩ := sqs_val (us := unitL us 0) (fun i hi => by
    rw [hlen] at hi
    exact ⟨(hW i hi).fn, by rw [hWm i hi]; exact Rat.le_trans (hu i hi).2 (Rat.le_of_lt h2)⟩) (by rw [hlen]; exact hl) us.length (by rw [hlen]; exact Nat.le_refl _)
  have hS1 : 1 ≤ mg (sqsS (unitL us 0) us.length).1 := by
    obtain ⟨g1, g2⟩ := s4 k hk
    refine Rat.le_trans ?_ g1
    refine g2.dn 1 (rep_int (k := 1) (by decide)) ?_
    rw [ab_mul, (hW k hk).fn.ab, hWm k hk, hkM]
    have := mul2 h1 h1 (by decide) (Rat.le_trans (by decide) h1)
    rw [Rat.mul_one] at this; exact this
  have hneg : negM (sqsS (unitL us 0) us.length).1 = false := by
    cases hn : negM (sqsS (unitL us 0) us.length).1 with
    | false => rfl
    | true =>
      exfalso
      have e : val (sqsS (unitL us 0) us.length).1 = -mg (sqsS (unitL us 0) us.length).1 := by unfold val; rw [hn]; simp [sgn, Rat.neg_mul]
      rw [s2] at e
      grind
  obtain ⟨ρ, hρ⟩ := sqrt_val s1.inu s1.fin hneg
  have hn1 : 1 ≤ us.length := by omega
  have hρ1 : 1 ≤ ρ := hρ.lo 1 (rep_int (k := 1) (by decide)) (by decide) (by rw [Rat.mul_one]; exact hS1)
  have hρ2 : ρ ≤ ((2 * (us.length : Int) : Int) : Rat) := by
    refine hρ.hi _ (rep_int (by omega)) (ile (a := 0) (by omega)) (Rat.le_trans s3 ?_)
    rw [← Rat.intCast_mul]
    refine ile ?_
    have h3 : (2 : Int) * us.length * 2 ≤ 2 * us.length * (2 * us.length) := Int.mul_le_mul_of_nonneg_left (by omega) (by omega)
    omega
  have hr : Fn (sqrtM (sqsS (unitL us 0) us.length).1).1 := ⟨hρ.inu, hρ.fin⟩
  have hrv : val (sqrtM (sqsS (unitL us 0) us.length).1).1 = ρ := by unfold val; rw [hρ.neg, hρ.mag]; simp [sgn]
  have hb : ((2 * (us.length : Int) : Int) : Rat) ≤ pw 1023 := by
    have e : pw 30 = ((1073741824 : Int) : Rat) := pw_lit (k := 1073741824) (by decide) (by decide)
    refine Rat.le_trans (ile (show 2 * (us.length : Int) ≤ 1073741824 by omega)) ?_
    rw [← e]; exact pw_le (by decide)
  have hfin := fl_scale (n := 0) hr (by decide) (by rw [pw_zero, Rat.mul_one, hρ.mag]; exact Rat.le_trans hρ2 hb)
  rw [pw_zero, Rat.mul_one, hrv] at hfin
  have h0 : (0 : Rat) ≤ ρ := Rat.le_trans (by decide) hρ1
  have hex := hfin.exact (by rw [ab_of h0]; exact hρ.rep)
  rw [ab_of h0] at hex
  have hnr : nrm2M us = (scaleM (sqrtM (sqsS (unitL us 0) us.length).1).1 0).1 := by
    unfold nrm2M
    rw [if_pos hp, he]
  rw [hnr]
  refine ⟨hfin.fn, hfin.nn h0, by rw [hex]; exact hρ1, by rw [hex]; exact hρ2⟩
end Go.Proofs.YtcikcinkjbbnhaaDoor.M
