/- The numbers of a reflection: tau times the square of v is near 2. -/
import Derived.Test.YtcikcinkjbbnhaaDoorZ1
set_option linter.unusedSimpArgs false
set_option linter.unusedVariables false
set_option maxHeartbeats 1000000
namespace Go.Proofs.YtcikcinkjbbnhaaDoor.M
open Go Go.Proofs

theorem nb_of_rel {x r : Rat} (hx : 0 ≤ x) (h : ab (r - x) ≤ u53 * x) : Nb 1 r x := by
  have h1 := ab_le.1 h
  have h2 := u53_pos
  have h3 : 0 ≤ u53 * u53 * x := mulnn (mulnn (Rat.le_of_lt h2) (Rat.le_of_lt h2)) hx
  have h4 : (1 - u53) * r ≤ (1 - u53) * (x + u53 * x) := mull (by grind) (by have := u53_small; grind)
  refine ⟨?_, ?_⟩
  · rw [pk, pk, Rat.one_mul]; grind
  · rw [pk, pk, Rat.one_mul]; grind
theorem Fl.nb {x : Rat} {r : Int} (h : Fl x r) (hx : pw (-1022) ≤ x) : Nb 1 (mg r) x := by
  have hx0 : 0 ≤ x := Rat.le_trans (pw_nn _) hx
  have := h.rel (by rw [ab_of hx0]; exact hx)
  rw [ab_of hx0, h.nn hx0] at this
  exact nb_of_rel hx0 this
theorem rep_whole {y : Rat} (h : Rep y) : ∃ N : Int, 0 ≤ N ∧ y = (N : Rat) * pw (-1074) := by
  obtain ⟨m, k, h1, h2, h3, rfl⟩ := h
  refine ⟨m * 2 ^ (k + 1074).toNat, Int.mul_nonneg h1 (Int.le_of_lt (Int.pow_pos (by decide))), ?_⟩
  rw [Rat.intCast_mul, ← pw_int (n := k + 1074) (by omega), Rat.mul_assoc, ← pw_add]
  congr 2
  omega
theorem rep_add {a b : Rat} (ha : Rep a) (hb : Rep b) (h : a + b < pw (-1022)) : Rep (a + b) := by
  obtain ⟨M, hM, rfl⟩ := rep_whole ha
  obtain ⟨N, hN, rfl⟩ := rep_whole hb
  rw [← Rat.add_mul, ← Rat.intCast_add] at h ⊢
  refine ⟨M + N, -1074, by omega, ?_, by decide, rfl⟩
  have e : pw (-1022) = (4503599627370496 : Rat) * pw (-1074) := by rw [← pw52]; rfl
  rw [e] at h
  have := mulcl h (pw_pos _)
  have h2 : (M + N : Int) < 4503599627370496 := ilt' this
  omega
theorem add_nb {a b : Int} (ha : Fn a) (hb : Fn b) (pa : val a = mg a) (pb : val b = mg b) (h : mg a + mg b ≤ pw 1023) : Fl (val a + val b) (addM a b).1 ∧ Nb 1 (mg (addM a b).1) (mg a + mg b) := by
  have h0 : 0 ≤ mg a + mg b := by have := ha.mg0; have := hb.mg0; grind
  have hf := fl_add ha hb (by rw [pa, pb, ab_of h0]; exact h)
  refine ⟨hf, ?_⟩
  rw [pa, pb] at hf
  rcases Rat.le_total (a := pw (-1022)) (b := mg a + mg b) with h1 | h1
  · exact hf.nb h1
  · by_cases h2 : mg a + mg b = pw (-1022)
    · exact hf.nb (reqle h2.symm)
    · have hr := rep_add ha.rep hb.rep (lt_of_le_ne h1 h2)
      have := hf.exact (by rw [ab_of h0]; exact hr)
      rw [ab_of h0] at this
      rw [this]
      exact (Nb.refl _).mono (by decide) h0 h0
theorem vmul_nn {a : Int} (ha : Fn a) : val a * val a = mg a * mg a := by
  rcases val_ab ha with e | e <;> rw [e] <;> grind
/-- Half of the least number there is. -/
def eta : Rat := pw (-1075)
theorem eta_pos : 0 < eta := pw_pos _
theorem eta_small : 1000000 * eta ≤ u53 := by
  unfold eta u53
  have h : (1000000 : Rat) ≤ pw 20 := by rw [pw_lit (n := 20) (k := 1048576) (by decide) (by decide)]; exact ile (by decide)
  refine Rat.le_trans (mulr h (pw_nn _)) ?_
  rw [← pw_add]
  exact pw_le (by decide)
/-- What is near but for a little that is nothing beside 1. -/
theorem nb_slack {k : Nat} {x y d : Rat} (hy : 1 ≤ y) (hx : 0 ≤ x) (h1 : pk k * x ≤ y + d) (h2 : pk k * y ≤ x + d) (hd0 : 0 ≤ d) (hd : 2 * d ≤ u53) (hk : (1 : Rat) / 2 ≤ pk k) : Nb (k + 1) x y := by
  have u1 := u53_small
  have u0 := u53_pos
  have p1 := pk_le k
  have p0 := pk_pos k
  have hu1 : (0 : Rat) ≤ 1 - u53 := by grind
  refine ⟨?_, ?_⟩
  · rw [pk, show pk k * (1 - u53) * x = (1 - u53) * (pk k * x) by grind]
    have a := mull h1 hu1
    have b : u53 * 1 ≤ u53 * y := mull hy (Rat.le_of_lt u0)
    have c : 0 ≤ u53 * d := mulnn (Rat.le_of_lt u0) hd0
    grind
  · rw [pk, show pk k * (1 - u53) * y = pk k * y - u53 * (pk k * y) by grind]
    have a : (1 : Rat) / 2 * 1 ≤ pk k * y := mul2 hk hy (by grind) (by grind)
    have b : u53 * (1 / 2 * 1) ≤ u53 * (pk k * y) := mull a (Rat.le_of_lt u0)
    grind
theorem pk_half {k : Nat} (h : (k : Int) ≤ 1000000) : (1 : Rat) / 2 ≤ pk k := by
  have b := bern k
  have hku : ((k : Int) : Rat) * u53 ≤ 1 / 1000000 := by
    have h1 : ((k : Int) : Rat) ≤ (1000000 : Rat) := ile h
    have := mul2 h1 u53_small (nat_nn k) (by grind)
    exact Rat.le_trans this (by grind)
  grind
theorem sm_nb {f g : Nat → Rat} {k : Nat} : ∀ n, (∀ i, i < n → Nb k (f i) (g i)) → Nb k (sm f n) (sm g n)
  | 0, _ => ⟨by rw [sm, sm, Rat.mul_zero]; exact Rat.le_refl, by rw [sm, sm, Rat.mul_zero]; exact Rat.le_refl⟩
  | n + 1, h => (sm_nb n (fun i hi => h i (by omega))).add (h n (by omega))
/-- The squares of numbers, summed. -/
theorem sqs_nb {us : List Int} (hu : ∀ i, i < us.length → Fn (us.getD i 0) ∧ mg (us.getD i 0) ≤ 2) (hl : us.length ≤ 1000) : ∀ n : Nat, n ≤ us.length →
    Nb n (mg (sqsS us n).1) (sm (fun i => mg (mulM (us.getD i 0) (us.getD i 0)).1) n)
  | 0, _ => by
    have : mg (sqsS us 0).1 = 0 := mg_z
    rw [this, sm]
    exact Nb.refl 0
  | n + 1, hn => by
    have ih := sqs_nb hu hl n (by omega)
    obtain ⟨s1, s2, s3, _⟩ := sqs_val hu (by omega) n (by omega)
    obtain ⟨t1, t2, t3, t4⟩ := sqs_val hu (by omega) (n + 1) hn
    obtain ⟨g1, g2⟩ := t4 n (by omega)
    have hp := g2.nn (by rw [vmul_nn (hu n (by omega)).1]; exact mulnn (hu n (by omega)).1.mg0 (hu n (by omega)).1.mg0)
    have hb : mg (sqsS us n).1 + mg (mulM (us.getD n 0) (us.getD n 0)).1 ≤ pw 1023 := by
      have e : pw 30 = ((1073741824 : Int) : Rat) := pw_lit (k := 1073741824) (by decide) (by decide)
      have e2 : pw 30 + pw 30 ≤ pw 1023 := by
        have := pw_succ 30
        rw [show pw 30 + pw 30 = pw (30 + 1) by grind]
        exact pw_le (by decide)
      have a : mg (sqsS us n).1 ≤ pw 30 := by rw [e]; exact Rat.le_trans s3 (ile (by omega))
      have b : mg (mulM (us.getD n 0) (us.getD n 0)).1 ≤ pw 30 := by rw [e]; exact Rat.le_trans g1 (Rat.le_trans t3 (ile (by omega)))
      exact Rat.le_trans (add_le2 a b) e2
    have h1 := (add_nb s1 g2.fn s2 hp hb).2
    have e1 : (sqsS us (n + 1)).1 = (addM (sqsS us n).1 (mulM (us.getD n 0) (us.getD n 0)).1).1 := rfl
    rw [e1, sm]
    have m0 := g2.fn.mg0
    have h2 : Nb n (mg (sqsS us n).1 + mg (mulM (us.getD n 0) (us.getD n 0)).1) (sm (fun i => mg (mulM (us.getD i 0) (us.getD i 0)).1) n + mg (mulM (us.getD n 0) (us.getD n 0)).1) := ih.add ((Nb.refl _).mono (by omega) m0 m0)
    have := h1.trans h2
    rwa [Nat.add_comm] at this
theorem sq_err {x r : Rat} (hx : 0 ≤ x) (h : ab (r - x) ≤ u53 * x + eta) : r ≤ (1 + u53) * x + eta ∧ (1 - u53) * x ≤ r + eta := by
  have := ab_le.1 h
  constructor <;> grind
theorem sm_err {f g : Nat → Rat} : ∀ n : Nat, (∀ i, i < n → f i ≤ (1 + u53) * g i + eta ∧ (1 - u53) * g i ≤ f i + eta) → sm f n ≤ (1 + u53) * sm g n + ((n : Int) : Rat) * eta ∧ (1 - u53) * sm g n ≤ sm f n + ((n : Int) : Rat) * eta
  | 0, _ => by
    have e : (((0 : Nat) : Int) : Rat) = 0 := rfl
    rw [sm, sm, e]
    constructor <;> grind
  | n + 1, h => by
    obtain ⟨a, b⟩ := sm_err n (fun i hi => h i (by omega))
    obtain ⟨c, d⟩ := h n (by omega)
    have e : (((n + 1 : Nat) : Int) : Rat) = ((n : Int) : Rat) + 1 := by push_cast; rfl
    rw [sm, sm, e]
    constructor <;> grind
theorem sqs_all {us : List Int} (hu : ∀ i, i < us.length → Fn (us.getD i 0) ∧ mg (us.getD i 0) ≤ 2) (hl : us.length ≤ 1000) (htop : ∃ i, i < us.length ∧ 1 ≤ mg (us.getD i 0)) :
    Nb (us.length + 2) (mg (sqsS us us.length).1) (sm (fun i => val (us.getD i 0) * val (us.getD i 0)) us.length) := by
  have h1 := sqs_nb hu hl us.length (Nat.le_refl _)
  obtain ⟨_, _, _, t4⟩ := sqs_val hu (by omega) us.length (Nat.le_refl _)
  have hsq : ∀ i, i < us.length → 0 ≤ val (us.getD i 0) * val (us.getD i 0) := fun i hi => sqnn _
  have he : ∀ i, i < us.length → mg (mulM (us.getD i 0) (us.getD i 0)).1 ≤ (1 + u53) * (val (us.getD i 0) * val (us.getD i 0)) + eta ∧ (1 - u53) * (val (us.getD i 0) * val (us.getD i 0)) ≤ mg (mulM (us.getD i 0) (us.getD i 0)).1 + eta := fun i hi => by
    obtain ⟨_, g2⟩ := t4 i hi
    have hp := g2.nn (hsq i hi)
    have := g2.err
    rw [hp, ab_of (hsq i hi)] at this
    exact sq_err (hsq i hi) this
  obtain ⟨a, b⟩ := sm_err us.length he
  have hS1 : 1 ≤ sm (fun i => val (us.getD i 0) * val (us.getD i 0)) us.length := by
    obtain ⟨i, hi, h⟩ := htop
    refine Rat.le_trans ?_ (sm_pos_le us.length hsq i hi)
    show 1 ≤ val (us.getD i 0) * val (us.getD i 0)
    rw [vmul_nn (hu i hi).1]
    have := mul2 h h (by decide) (Rat.le_trans (by decide) h)
    rwa [Rat.mul_one] at this
  have hP0 : 0 ≤ sm (fun i => mg (mulM (us.getD i 0) (us.getD i 0)).1) us.length := sm_nn _ fun i hi => (t4 i hi).2.fn.mg0
  generalize sm (fun i => val (us.getD i 0) * val (us.getD i 0)) us.length = S at a b hS1 ⊢
  generalize sm (fun i => mg (mulM (us.getD i 0) (us.getD i 0)).1) us.length = P at a b hP0 h1
  have hne : ((us.length : Int) : Rat) * eta ≤ 1000 * eta := mulr (ile (b := 1000) (by omega)) (Rat.le_of_lt eta_pos)
  have hn0 : 0 ≤ ((us.length : Int) : Rat) * eta := mulnn (nat_nn _) (Rat.le_of_lt eta_pos)
  have es := eta_small
  have ep := eta_pos
  generalize ((us.length : Int) : Rat) * eta = d at a b hne hn0
  have u0 := u53_pos
  have u1 := u53_small
  have h2 : Nb 2 P S := by
    refine nb_slack (d := d) hS1 hP0 ?_ ?_ hn0 (by grind) (pk_half (by decide))
    · rw [pk, pk, Rat.one_mul]
      have c := mull a (show (0 : Rat) ≤ 1 - u53 by grind)
      have c1 : 0 ≤ u53 * u53 * S := mulnn (mulnn (Rat.le_of_lt u0) (Rat.le_of_lt u0)) (by grind)
      have c2 : 0 ≤ u53 * d := mulnn (Rat.le_of_lt u0) hn0
      grind
    · rw [pk, pk, Rat.one_mul]; exact b
  have := h1.trans h2
  exact this
end Go.Proofs.YtcikcinkjbbnhaaDoor.M
