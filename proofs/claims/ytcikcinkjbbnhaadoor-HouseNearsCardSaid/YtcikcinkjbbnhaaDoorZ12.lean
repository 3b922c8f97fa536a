/- A list reflected in floating point, against the exact one. -/
import Derived.Test.YtcikcinkjbbnhaaDoorZ5
import Derived.Test.YtcikcinkjbbnhaaDoorZ11
set_option linter.unusedSimpArgs false
set_option linter.unusedVariables false
set_option maxHeartbeats 1000000
namespace Go.Proofs.YtcikcinkjbbnhaaDoor.M
open Go Go.Proofs

/-- A flag that tells of nothing grave: neither over, nor beneath, nor none. -/
def Gd0 (f : Int) : Prop := (BitVec.ofInt 8 f) &&& 22#8 = 0#8
theorem gd0_or {a b : Int} (h : Gd0 (bits .or .u8 a b)) : Gd0 a ∧ Gd0 b := by
  have hw : ∀ y : Nat, y < 256 → IntKind.u8.wrap (y : Int) = y := fun y hy => by simp [IntKind.wrap, IntKind.signed, IntKind.bits]; omega
  have e : bits .or .u8 a b = (((BitVec.ofInt 8 a ||| BitVec.ofInt 8 b).toNat : Nat) : Int) := hw _ (BitVec.isLt _)
  have e2 : BitVec.ofInt 8 (bits .or .u8 a b) = BitVec.ofInt 8 a ||| BitVec.ofInt 8 b := by
    generalize BitVec.ofInt 8 a ||| BitVec.ofInt 8 b = z at e ⊢
    rw [e]; simp
  unfold Gd0 at *
  rw [e2, BitVec.and_comm, BitVec.and_or_distrib_left, BitVec.or_eq_zero_iff] at h
  rw [BitVec.and_comm, BitVec.and_comm (BitVec.ofInt 8 b)]
  exact h
/-- A number near what was to be reckoned. -/
structure Ra (x : Rat) (r : Int) : Prop where
  fn : Fn r
  er : ab (val r - x) ≤ u53 * ab x
theorem rd_ra {s : Bool} {x : Rat} {r : Int × Int} {ρ : Rat} (h : RdOf s (ab x) r ρ) (hx : sgn s * ab x = x) (hg : Gd0 r.2) : Ra x r.1 := by
  have hf : r.2 = 0 ∨ r.2 = 1 := by
    rcases h.fl with e | e | e | e | e
    · exact .inl e
    · exact .inr e
    all_goals (rw [e] at hg; unfold Gd0 at hg; exact absurd hg (by decide))
  have hlt : ρ < pw 1024 := by
    rcases Rat.le_total (a := pw 1024) (b := ρ) with h1 | h1
    · rcases h.fo.2 h1 with e | e <;> rcases hf with e2 | e2 <;> rw [e2] at e <;> exact absurd e (by decide)
    · by_cases h2 : ρ = pw 1024
      · rcases h.fo.2 (reqle h2.symm) with e | e <;> rcases hf with e2 | e2 <;> rw [e2] at e <;> exact absurd e (by decide)
      · exact lt_of_le_ne h1 h2
  obtain ⟨h1, h2, h3⟩ := h.fin hlt
  refine ⟨⟨h.inu, h1⟩, ?_⟩
  have hv : val r.1 = sgn s * ρ := by
    show sgn (negM r.1) * mg r.1 = _
    rw [h2, h3]
  have e1 : val r.1 - x = sgn s * (ρ - ab x) := by rw [hv]; conv => lhs; rw [← hx]; 
                                                   grind
  rw [e1, ab_sgn]
  rcases hf with e | e
  · rw [h.f0 e, show ∀ a : Rat, a - a = 0 from fun a => by grind, ab_zero]
    exact mulnn (Rat.le_of_lt u53_pos) (ab_nn _)
  · exact h.f1 (.inl e)
theorem ra_mul {a b : Int} (ha : Fn a) (hb : Fn b) (h : Gd0 (mulM a b).2) : Ra (val a * val b) (mulM a b).1 := by
  obtain ⟨ρ, hρ⟩ := mul_val ha.inu hb.inu ha.fin hb.fin
  have e : ab (val a * val b) = mg a * mg b := by rw [ab_mul, ha.ab, hb.ab]
  refine rd_ra (s := !(negM a == negM b)) (by rw [e]; exact hρ) ?_ h
  rw [e]
  have : sgn (!(negM a == negM b)) = sgn (negM a) * sgn (negM b) := sgn_xor _ _
  rw [this]
  unfold val
  grind
theorem ra_add {a b : Int} (ha : Fn a) (hb : Fn b) (h : Gd0 (addM a b).2) : Ra (val a + val b) (addM a b).1 := by
  obtain ⟨s, ρ, hρ, hs⟩ := add_val ha.inu hb.inu ha.fin hb.fin
  exact rd_ra hρ hs h
theorem ra_sub {a b : Int} (ha : Fn a) (hb : Fn b) (h : Gd0 (addM a (flipM b)).2) : Ra (val a - val b) (addM a (flipM b)).1 := by
  obtain ⟨s, ρ, hρ, hs⟩ := sub_val ha.inu hb.inu ha.fin hb.fin
  exact rd_ra hρ hs h
/-- How far a sum of products may be off. -/
def cn (n : Nat) : Rat := (2 * ((n : Int) : Rat) + 3) * u53
theorem cn_succ (n : Nat) : cn (n + 1) = cn n + 2 * u53 := by
  unfold cn
  have : (((n + 1 : Nat) : Int) : Rat) = ((n : Int) : Rat) + 1 := by push_cast; rfl
  rw [this]; grind
theorem cn_small {n : Nat} (h : n ≤ 100000) : 0 ≤ cn n ∧ cn n ≤ 1 / 100 := by
  have u0 := u53_pos
  have u1 := u53_small
  have hn : ((n : Int) : Rat) ≤ (100000 : Rat) := ile (b := 100000) (by omega)
  have hn0 := nat_nn n
  have h1 := mul2 (show 2 * ((n : Int) : Rat) + 3 ≤ 200003 by grind) u1 (by grind) (by grind)
  unfold cn
  exact ⟨mulnn (by grind) (Rat.le_of_lt u0), by grind⟩
theorem sm_ab (f : Nat → Rat) : ∀ n, ab (sm f n) ≤ sm (fun i => ab (f i)) n
  | 0 => by show ab 0 ≤ 0; rw [ab_zero]; exact Rat.le_refl
  | n + 1 => by
    show ab (sm f n + f n) ≤ sm (fun i => ab (f i)) n + ab (f n)
    have h1 := ab_add (sm f n) (f n)
    have h2 := sm_ab f n
    grind
theorem step_sum {s' s pv E A z a c : Rat} (h1 : ab (s - E) ≤ c * A) (hE : ab E ≤ A) (hz : ab z = a) (hp : ab (pv - z) ≤ u53 * a) (hq : ab (s' - (s + pv)) ≤ u53 * ab (s + pv)) (hc : u53 ≤ c) (hc1 : c ≤ 1 / 10) :
    ab (s' - (E + z)) ≤ (c + 2 * u53) * (A + a) := by
  have u0 := u53_pos
  have u1 := u53_small
  have a0 : 0 ≤ a := by rw [← hz]; exact ab_nn z
  have A0 : 0 ≤ A := Rat.le_trans (ab_nn E) hE
  have e1 : s' - (E + z) = (s' - (s + pv)) + ((s - E) + (pv - z)) := by grind
  have e2 : s + pv = (E + z) + ((s - E) + (pv - z)) := by grind
  have t1 := ab_add (s' - (s + pv)) ((s - E) + (pv - z))
  have t2 := ab_add (s - E) (pv - z)
  have t3 := ab_add (E + z) ((s - E) + (pv - z))
  have t4 := ab_add E z
  rw [← e1] at t1
  rw [← e2] at t3
  rw [hz] at t4
  have h5 : ab (s + pv) ≤ (1 + c) * A + (1 + u53) * a := by grind
  have h6 := mull h5 (Rat.le_of_lt u0)
  have h7 : u53 * (c * A) ≤ u53 * (1 / 10 * A) := mull (mulr hc1 A0) (Rat.le_of_lt u0)
  have h8 : u53 * (u53 * a) ≤ u53 * (1 / 1000000000000 * a) := mull (mulr u1 a0) (Rat.le_of_lt u0)
  have h9 : u53 * a ≤ c * a := mulr hc a0
  have h10 : 0 ≤ u53 * A := mulnn (Rat.le_of_lt u0) A0
  have h11 : 0 ≤ u53 * a := mulnn (Rat.le_of_lt u0) a0
  grind
theorem cn_lo (n : Nat) : u53 ≤ cn n := by
  unfold cn
  have h := nat_nn n
  have := mulr (show (1 : Rat) ≤ 2 * ((n : Int) : Rat) + 3 by grind) (Rat.le_of_lt u53_pos)
  rwa [Rat.one_mul] at this
theorem sum_err {V : List Int} {x : Nat → Int} {g : Int} : ∀ n : Nat, n ≤ 100000 → (∀ i, i < n → Fn (V.getD i 0) ∧ Fn (x i)) → Gd0 (sumS V x g n).2 →
    Gd0 g ∧ Fn (sumS V x g n).1 ∧ ab (val (sumS V x g n).1 - sm (fun i => val (V.getD i 0) * val (x i)) n) ≤ cn n * sm (fun i => ab (val (V.getD i 0) * val (x i))) n
  | 0, _, _, h => ⟨h, Fn.zero, by
    show ab (val 0 - 0) ≤ cn 0 * 0
    rw [val_z, show (0 : Rat) - 0 = 0 from by grind, ab_zero]; grind⟩
  | n + 1, hn, hf, h => by
    rw [sumS_succ] at h ⊢
    obtain ⟨h1, h2⟩ := gd0_or h
    obtain ⟨h3, h4⟩ := gd0_or h1
    obtain ⟨i0, i1, i2⟩ := sum_err n (by omega) (fun i hi => hf i (by omega)) h3
    obtain ⟨f1, f2⟩ := hf n (by omega)
    have p := ra_mul f1 f2 h4
    have q := ra_add i1 p.fn h2
    have c1 := cn_small (n := n) (by omega)
    refine ⟨i0, q.fn, ?_⟩
    rw [cn_succ]
    exact step_sum i2 (sm_ab _ n) rfl p.er q.er (cn_lo n) (by grind)
theorem Nm.dom {f g : Nat → Rat} {n : Nat} {a S : Rat} (h : Nm g n a S) (hf : ∀ i, i < n → ab (f i) ≤ g i) : Nm f n a S :=
  ⟨h.e0, Rat.le_trans (sm_le n fun i hi => by
    have := mul2 (hf i hi) (hf i hi) (ab_nn _) (Rat.le_trans (ab_nn _) (hf i hi))
    rwa [ab_sq] at this) h.le⟩
/-- One number of a reflected list. -/
theorem put_err {y x q v t s S A τ c : Rat} (hτ : 0 ≤ τ) (hS : ab S ≤ A) (hs : ab (s - S) ≤ c * A) (ht : ab (t - τ * s) ≤ u53 * ab (τ * s)) (hq : ab (q - v * t) ≤ u53 * ab (v * t)) (hy : ab (y - (x - q)) ≤ u53 * ab (x - q)) (hc0 : 0 ≤ c) (hc1 : c ≤ 1 / 10) :
    ab (y - (x - τ * S * v)) ≤ u53 * ab x + ab v * (τ * A * (c + 6 * u53)) := by
  have u0 := u53_pos
  have u1 := u53_small
  have A0 : 0 ≤ A := Rat.le_trans (ab_nn S) hS
  obtain ⟨g, hg⟩ : ∃ g, τ * A = g := ⟨_, rfl⟩
  have g0 : 0 ≤ g := by rw [← hg]; exact mulnn hτ A0
  -- t
  have t0 : ab (τ * s - τ * S) ≤ c * g := by
    have e : τ * s - τ * S = τ * (s - S) := by grind
    rw [e, ab_mul, ab_of hτ, ← hg]
    exact Rat.le_trans (mull hs hτ) (reqle (by grind))
  have t1 : ab (τ * S) ≤ g := by rw [ab_mul, ab_of hτ, ← hg]; exact mull hS hτ
  have t2 := ab_add (τ * S) (τ * s - τ * S)
  rw [show τ * S + (τ * s - τ * S) = τ * s by grind] at t2
  have t3 := ab_add (t - τ * s) (τ * s - τ * S)
  rw [show t - τ * s + (τ * s - τ * S) = t - τ * S by grind] at t3
  have cg : c * g ≤ 1 / 10 * g := mulr hc1 g0
  have ug := mulnn (Rat.le_of_lt u0) g0
  have t4 : ab (t - τ * S) ≤ (c + 2 * u53) * g := by
    have := mull (show ab (τ * s) ≤ 11 / 10 * g by grind) (Rat.le_of_lt u0)
    grind
  have uuc : u53 * g ≤ 1 / 1000000000000 * g := mulr u1 g0
  have t5 : ab t ≤ 12 / 10 * g := by
    have := ab_add (τ * S) (t - τ * S)
    rw [show τ * S + (t - τ * S) = t by grind] at this
    grind
  -- q
  have v0 := ab_nn v
  obtain ⟨w, hw⟩ : ∃ w, ab v * g = w := ⟨_, rfl⟩
  have w0 : 0 ≤ w := by rw [← hw]; exact mulnn v0 g0
  have uw := mulnn (Rat.le_of_lt u0) w0
  have q1 : ab (v * t) ≤ 12 / 10 * w := by
    rw [ab_mul, ← hw]; exact Rat.le_trans (mull t5 v0) (reqle (by grind))
  have q2 : ab (v * t - v * (τ * S)) ≤ (c + 2 * u53) * w := by
    rw [show v * t - v * (τ * S) = v * (t - τ * S) by grind, ab_mul, ← hw]
    exact Rat.le_trans (mull t4 v0) (reqle (by grind))
  have q3 := ab_add (q - v * t) (v * t - v * (τ * S))
  rw [show q - v * t + (v * t - v * (τ * S)) = q - v * (τ * S) by grind] at q3
  have q4 := mull q1 (Rat.le_of_lt u0)
  have q5 : ab (q - v * (τ * S)) ≤ (c + 4 * u53) * w := by grind
  have q6 : ab (v * (τ * S)) ≤ w := by rw [ab_mul, ← hw]; exact mull t1 v0
  have cw : c * w ≤ 1 / 10 * w := mulr hc1 w0
  have uw2 : u53 * w ≤ 1 / 1000000000000 * w := mulr u1 w0
  have q7 : ab q ≤ 12 / 10 * w := by
    have := ab_add (v * (τ * S)) (q - v * (τ * S))
    rw [show v * (τ * S) + (q - v * (τ * S)) = q by grind] at this
    grind
  -- y
  have y1 := ab_add x (-q)
  rw [ab_neg, show x + -q = x - q by grind] at y1
  have y2 := mull y1 (Rat.le_of_lt u0)
  have y3 := mull q7 (Rat.le_of_lt u0)
  have y4 := ab_add (y - (x - q)) (-(q - v * (τ * S)))
  rw [ab_neg, show y - (x - q) + -(q - v * (τ * S)) = y - (x - τ * S * v) by grind] at y4
  rw [hg, show ab v * (g * (c + 6 * u53)) = (c + 6 * u53) * w by rw [← hw]; grind]
  grind
/-- A list reflected with rounding, held against the exact one. -/
theorem col_err {y x q v : Nat → Rat} {t s τ c : Rat} {n k : Nat} (hτ : 0 ≤ τ) (hs : ab (s - sm (fun i => v i * x i) n) ≤ c * sm (fun i => ab (v i * x i)) n) (ht : ab (t - τ * s) ≤ u53 * ab (τ * s)) (hq : ∀ i, i < n → ab (q i - v i * t) ≤ u53 * ab (v i * t)) (hy : ∀ i, i < n → ab (y i - (x i - q i)) ≤ u53 * ab (x i - q i)) (hc0 : 0 ≤ c) (hc1 : c ≤ 1 / 10)
    (hk : (k : Int) ≤ 100000) (hN : Nb k (τ * sm (fun i => v i * v i) n) 2) :
    Nm (fun i => y i - (x i - τ * sm (fun i => v i * x i) n * v i)) n (u53 + 3 * (c + 6 * u53)) (sm (fun i => x i * x i) n) := by
  obtain ⟨A, hA⟩ : ∃ A, sm (fun i => ab (v i * x i)) n = A := ⟨_, rfl⟩
  obtain ⟨X, hX⟩ : ∃ X, sm (fun i => x i * x i) n = X := ⟨_, rfl⟩
  obtain ⟨V, hV⟩ : ∃ V, sm (fun i => v i * v i) n = V := ⟨_, rfl⟩
  have hX0 : 0 ≤ X := by rw [← hX]; exact sm_sq_nn _ _
  have hV0 : 0 ≤ V := by rw [← hV]; exact sm_sq_nn _ _
  have hS := sm_ab (fun i => v i * x i) n
  rw [hA] at hS hs
  have hA0 : 0 ≤ A := Rat.le_trans (ab_nn _) hS
  have u0 := u53_pos
  have hcau := cauchy (fun i => ab (v i)) (fun i => ab (x i)) n
  rw [show sm (fun i => ab (v i) * ab (x i)) n = A by rw [← hA]; exact sm_congr n fun i _ => (ab_mul _ _).symm,
    show sm (fun i => ab (v i) * ab (v i)) n = V by rw [← hV]; exact sm_congr n fun i _ => ab_sq _,
    show sm (fun i => ab (x i) * ab (x i)) n = X by rw [← hX]; exact sm_congr n fun i _ => ab_sq _] at hcau
  rw [hV] at hN
  have htV : 0 ≤ τ * V := mulnn hτ hV0
  have hd := (ab_le.1 (hN.dist htV (by decide) (by omega))).1
  have hku := ku_small hk
  have h3 : τ * V ≤ 3 := by grind
  have h9 := mul2 h3 h3 htV (by decide)
  obtain ⟨e, he⟩ : ∃ e, c + 6 * u53 = e := ⟨_, rfl⟩
  have he0 : 0 ≤ e := by grind
  have n1 : Nm (fun i => u53 * ab (x i)) n u53 X := ⟨Rat.le_of_lt u0, by
    rw [sm_congr (g := fun i => u53 * u53 * (x i * x i)) n (fun i _ => by rw [← ab_sq (x i)]; grind), sm_mul, hX]
    exact Rat.le_refl⟩
  have n2 : Nm (fun i => ab (v i) * (τ * A * e)) n (3 * e) X := ⟨by grind, by
    rw [sm_congr (g := fun i => τ * A * e * (τ * A * e) * (v i * v i)) n (fun i _ => by rw [← ab_sq (v i)]; grind), sm_mul, hV]
    have h1 : τ * τ * (e * e) * V * (A * A) ≤ τ * τ * (e * e) * V * (V * X) := mull hcau (mulnn (mulnn (sqnn _) (sqnn _)) hV0)
    have h2 : (e * e) * X * (τ * V * (τ * V)) ≤ (e * e) * X * (3 * 3) := mull h9 (mulnn (sqnn _) hX0)
    grind⟩
  rw [hX]
  have n3 := n1.add n2 hX0
  rw [he]
  refine n3.dom fun i hi => ?_
  have := put_err (v := v i) hτ hS hs ht (hq i hi) (hy i hi) hc0 hc1
  rw [he] at this
  exact this
end Go.Proofs.YtcikcinkjbbnhaaDoor.M
