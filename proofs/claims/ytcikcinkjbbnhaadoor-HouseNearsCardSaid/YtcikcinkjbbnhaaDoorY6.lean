/- Roots as fractions. -/
import Derived.Test.YtcikcinkjbbnhaaDoorY5
set_option linter.unusedSimpArgs false
set_option linter.unusedVariables false
set_option maxRecDepth 10000
set_option maxHeartbeats 400000
namespace Go.Proofs.YtcikcinkjbbnhaaDoor.M
open Go Go.Proofs

theorem and1_i64 (n : Int) : bits .and .i64 n 1 = n % 2 := by
  unfold bits
  dsimp only
  rw [BitVec.toNat_and]
  have h3 : (BitVec.ofInt IntKind.i64.bits 1).toNat = 1 := by decide
  rw [h3, Nat.and_one_is_mod]
  have h4 : ((BitVec.ofInt IntKind.i64.bits n).toNat : Int) % 2 = n % 2 := by
    rw [BitVec.toNat_ofInt]
    have : (IntKind.i64.bits) = 64 := rfl
    rw [this]
    omega
  generalize (BitVec.ofInt IntKind.i64.bits n).toNat = x at h4
  have : ((x % 2 : Nat) : Int) = n % 2 := by omega
  rw [this, wrap_i64 (by omega)]

/-- What a root is. -/
structure Rt (v : Rat) (r : Int × Int) (ρ : Rat) : Prop where
  rep : Rep ρ
  inu : InU r.1
  fin : finiteM r.1 = true
  neg : negM r.1 = false
  mag : mg r.1 = ρ
  lo : ∀ y, Rep y → 0 ≤ y → y * y ≤ v → y ≤ ρ
  hi : ∀ y, Rep y → 0 ≤ y → v ≤ y * y → ρ ≤ y
  up : ∃ X, 0 ≤ X ∧ X * X ≤ v ∧ ρ ≤ (1 + pw (-53)) * X
  dn : ∃ X, 0 ≤ X ∧ v ≤ X * X ∧ (1 - pw (-53)) * X ≤ ρ
  dnR : ∃ X, 0 ≤ X ∧ v ≤ X * X ∧ Rnd X ρ
theorem sq_le {x y : Rat} (hy : 0 ≤ y) (h : x * x ≤ y * y) : x ≤ y := by
  rcases Rat.le_total (a := x) (b := y) with h1 | h1
  · exact h1
  · have h2 : 0 ≤ x := Rat.le_trans hy h1
    have h3 := mul2 h1 h1 hy h2
    have h4 : x * x = y * y := Rat.le_antisymm h h3
    rcases Rat.le_total (a := x) (b := y) with h5 | h5
    · exact h5
    · have h6 : (x - y) * (x + y) = 0 := by grind
      rcases Rat.mul_eq_zero.1 h6 with h7 | h7
      · grind
      · grind
theorem rnd_up {X ρ : Rat} (h : ab (ρ - X) ≤ pw (-53) * X) : ρ ≤ (1 + pw (-53)) * X := by
  have := (ab_le.1 h).1
  grind
theorem rnd_dn {X ρ : Rat} (h : ab (ρ - X) ≤ pw (-53) * X) : (1 - pw (-53)) * X ≤ ρ := by
  have := (ab_le.1 h).2
  grind
/-- A rounded number that isn't tiny is near. -/
theorem Rnd.rel {X ρ : Rat} (h : Rnd X ρ) (hX : pw (-1022) ≤ X) : ab (ρ - X) ≤ pw (-53) * X := by
  rcases h.near with h1 | h1
  · exact h1
  · have h2 := mull hX (pw_nn (-53))
    rw [← pw_add] at h2
    exact Rat.le_trans h1 h2
theorem le_add {a b : Rat} (h : 0 ≤ b) : a ≤ a + b := by grind
theorem lt_of_add1 {a b : Rat} (h : a + 1 ≤ b) : a < b := by grind
theorem sub_pos' {a b : Rat} (h : b ≤ a) (h' : a ≠ b) : 0 < a - b := by grind
theorem sub_lt1 {a b : Rat} (h : a < b + 1) : a - b < 1 := by grind
theorem add_sub {a b : Rat} : a + (b - a) = b := by grind
theorem lt_of_le_ne {a b : Rat} (h : b ≤ a) (h' : b ≠ a) : b < a := by grind
theorem one_sub {a : Rat} (h : a < 1) : 0 < 1 - a := by grind
theorem one_sub1 {a : Rat} (h : 0 < a) : 1 - a < 1 := by grind
theorem le_sub1 {a b : Rat} (h : a + 1 ≤ b) : a ≤ b - 1 := by grind
theorem half_inY : (0 : Rat) < 1 / 2 ∧ (1 / 2 : Rat) < 1 ∧ (0 : Rat) ≤ 1 / 2 := by refine ⟨?_, ?_, ?_⟩ <;> grind
theorem lt_of_sq {x y : Rat} (hy : 0 ≤ y) (h : x * x < y * y) : x < y := by
  rcases Rat.le_total (a := x) (b := y) with h1 | h1
  · by_cases h2 : x = y
    · rw [h2] at h; exact absurd h Rat.lt_irrefl
    · grind
  · have := mul2 h1 h1 hy (Rat.le_trans hy h1)
    grind
theorem div_nn {x y : Rat} (hx : 0 ≤ x) (hy : 0 < y) : 0 ≤ x / y := by
  refine mulc (c := y) ?_ hy
  rw [Rat.div_mul_cancel (by grind)]; grind
theorem th_pick {x : Rat} (h : 1 ≤ x) : ∃ th : Rat, 0 < th ∧ th < 1 ∧ (x + th) * (x + th) ≤ x * x + 1 ∧ (x + 1) * (x + 1) - 1 ≤ (x + (1 - th)) * (x + (1 - th)) := by
  have hd : 0 < 2 * x + 2 := by grind
  have e : 1 / (2 * x + 2) * (2 * x + 2) = 1 := Rat.div_mul_cancel (by grind)
  obtain ⟨t, ht⟩ : ∃ t : Rat, 1 / (2 * x + 2) = t := ⟨_, rfl⟩
  rw [ht] at e
  have t0 : 0 < t := by
    refine mulcl (c := 2 * x + 2) ?_ hd
    rw [e]; grind
  have t1 : t < 1 := by
    refine mulcl (c := 2 * x + 2) ?_ hd
    rw [e]; grind
  have t2 := mulr (Rat.le_of_lt t1) (Rat.le_of_lt t0)
  have t3 := mulnn (Rat.le_of_lt t0) (Rat.le_of_lt t0)
  refine ⟨t, t0, t1, ?_, ?_⟩
  · grind
  · grind
theorem sqrt_val {a : Int} (ha : InU a) (fa : finiteM a = true) (na : negM a = false) : ∃ ρ, Rt (mg a) (sqrtM a) ρ := by
  have ka := fin_kk fa
  by_cases z : kindM a = 1
  · have h0 := (mg_zero ha fa).2 z
    have hr : sqrtM a = (a, 0) := by
      unfold sqrtM
      rw [if_neg ka.1, if_pos (.inl z)]
    rw [hr, h0]
    refine ⟨0, rep_zero, ha, fa, na, h0, fun y _ hy hyy => ?_, fun y _ hy _ => hy, ⟨0, Rat.le_refl, by rw [Rat.mul_zero]; exact Rat.le_refl, by rw [Rat.mul_zero]; exact Rat.le_refl⟩, ⟨0, Rat.le_refl, by rw [Rat.mul_zero]; exact Rat.le_refl, by rw [Rat.mul_zero]; exact Rat.le_refl⟩, ⟨0, Rat.le_refl, by rw [Rat.mul_zero]; exact Rat.le_refl, Rnd.of_rep rep_zero Rat.le_refl⟩⟩
    exact sq_le Rat.le_refl (by rw [Rat.mul_zero]; exact hyy)
  have pa := parts53 ha
  have ea := part_e ha fa
  have hpos := mg_pos ha fa z
  have hma : 1 ≤ (partsM a).1 := by
    rcases Int.lt_or_le 0 (partsM a).1 with h | h
    · omega
    · exfalso
      have h0 : (partsM a).1 = 0 := by omega
      unfold mg at hpos
      rw [h0, Rat.intCast_zero, Rat.zero_mul] at hpos
      exact Rat.lt_irrefl hpos
  have hinf : ¬ a = 9218868437227405312 := by
    rintro rfl
    exact absurd fa (by decide)
  obtain ⟨L, l1, l2, l3⟩ := lenM_ln (x := (partsM a).1) ⟨pa.1, by omega⟩
  have l4 := l3.2 (by omega)
  have l5 : L ≤ 53 := by
    rcases Nat.lt_or_ge L 54 with h | h
    · omega
    · have : (2 : Int) ^ 54 ≤ 2 ^ L := pow_le' h
      have e : (2 : Int) ^ 54 = 18014398509481984 := by decide
      omega
  have l6 : 1 ≤ L := by
    rcases Nat.eq_zero_or_pos L with h | h
    · subst h
      have := l3.1
      simp at this
      omega
    · exact h
  obtain ⟨u, hu, hpar, hu2⟩ : ∃ u : Nat, upM a = (u : Int) ∧ ((partsM a).2 - (u : Int)) % 2 = 0 ∧ (u = 127 - L ∨ u = 126 - L) := by
    unfold upM
    rw [l1, wrap_i64 (n := 127 - (L : Int)) (by omega), wrap_i64 (n := (partsM a).2 - (127 - (L : Int))) (by omega), and1_i64]
    split
    · exact ⟨127 - L, by omega, by omega, .inl rfl⟩
    · rw [wrap_i64 (by omega)]
      exact ⟨126 - L, by omega, by omega, .inr rfl⟩
  obtain ⟨k, hk⟩ : ∃ k : Int, (partsM a).2 - (u : Int) = 2 * k := ⟨((partsM a).2 - (u : Int)) / 2, by omega⟩
  have hup := ppos u
  have hm1 : (partsM a).1 * 2 ^ u < 170141183460469231731687303715884105728 := by
    have h1 : (partsM a).1 * 2 ^ u < 2 ^ L * 2 ^ u := Int.mul_lt_mul_of_pos_right l3.1 hup
    rw [← Int.pow_add] at h1
    have h2 : (2 : Int) ^ (L + u) ≤ 2 ^ 127 := pow_le' (by omega)
    have e : (2 : Int) ^ 127 = 170141183460469231731687303715884105728 := by decide
    omega
  have hm2 : 42535295865117307932921825928971026432 ≤ (partsM a).1 * 2 ^ u := by
    have h1 : (2 : Int) ^ L * 2 ^ u ≤ 2 * (partsM a).1 * 2 ^ u := Int.mul_le_mul_of_nonneg_right l4 (Int.le_of_lt hup)
    rw [← Int.pow_add, Int.mul_assoc] at h1
    have h2 : (2 : Int) ^ 126 ≤ 2 ^ (L + u) := pow_le' (by omega)
    have e : (2 : Int) ^ 126 = 85070591730234615865843651857942052864 := by decide
    omega
  have wa : InW (0, (partsM a).1) := ⟨zero_in, parts_in ha⟩
  have hw := wleft_in wa (u : Int)
  have hwv := wleft_v wa (n := u) (by omega)
  rw [wv_z, Int.emod_eq_of_lt (by omega) (by omega)] at hwv
  obtain ⟨x, x1, x2, x3, x4, x5⟩ := wsqrt_val hw
  rw [hwv] at x3 x4 x5
  obtain ⟨V, hV⟩ : ∃ V, (partsM a).1 * 2 ^ u = V := ⟨_, rfl⟩
  rw [hV] at x3 x4 x5 hm1 hm2
  have x0 := x1.1
  have xb : 6521908912666391106 ≤ x := by
    rcases Int.lt_or_le x 6521908912666391106 with h | h
    · have : (x + 1) * (x + 1) ≤ 6521908912666391106 * 6521908912666391106 := Int.mul_le_mul (by omega) (by omega) (by omega) (by omega)
      omega
    · exact h
  have hr : sqrtM a = roundM false (0, x) k (!(wsqrtM (wleftM (0, (partsM a).1) (u : Int))).2) := by
    unfold sqrtM rootM
    rw [if_neg ka.1, if_neg (fun h => h.elim z hinf), na, if_neg (by decide), hu, x2, wrap_i64 (n := (partsM a).2 - (u : Int)) (by omega), hk]
    congr 1
    rw [Int.mul_tdiv_cancel_left k (show (2 : Int) ≠ 0 by decide), wrap_i64 (by omega)]
  have hkb : -650 ≤ k ∧ k ≤ 450 := by omega
  have hxw : InW ((0, x) : W2) := ⟨zero_in, x1⟩
  have hv : mg a = ((V : Int) : Rat) * (pw k * pw k) := by
    rw [← pw_add, ← hV, show k + k = (partsM a).2 - (u : Int) by omega]
    unfold mg
    have := pw_sub (partsM a).2 (u : Int)
    rw [pw_nat] at this
    rw [← this]
    push_cast
    rw [Rat.mul_comm (pw _), Rat.mul_assoc]
  have hpk := pw_pos k
  have hxr : (6521908912666391106 : Rat) ≤ (x : Rat) := ile xb
  have hxr1 : (1 : Rat) ≤ (x : Rat) := ile (a := 1) (by omega)
  have hx64 : (x : Rat) + 1 ≤ pw 64 := by
    have h1 : ((x + 1 : Int) : Rat) ≤ ((18446744073709551616 : Int) : Rat) := ile (by have := x1.2; omega)
    rw [pw_lit (k := 18446744073709551616) (by decide) (by decide)]
    have h2 : ((x + 1 : Int) : Rat) = (x : Rat) + 1 := by push_cast; rfl
    rw [← h2]; exact h1
  obtain ⟨ex, hex⟩ : ∃ ex, (wsqrtM (wleftM (0, (partsM a).1) (u : Int))).2 = ex := ⟨_, rfl⟩
  rw [hex] at hr x5
  -- whatever a little more it is
  have hth : ∀ th : Rat, 0 ≤ th → th < 1 → ((!ex) = true ↔ th ≠ 0) → Rnd (((x : Rat) + th) * pw k) (mg (sqrtM a).1) ∧ InU (sqrtM a).1 ∧ finiteM (sqrtM a).1 = true ∧ negM (sqrtM a).1 = false := fun th t0 t1 tz => by
    obtain ⟨ρ, hρ⟩ := round_val false hxw (e := k) (by omega) (more := !ex) (th := th) ⟨t0, t1⟩ tz (fun _ => by rw [wv_z]; omega) (X := ((x : Rat) + th) * pw k) (by rw [wv_z])
    rw [← hr] at hρ
    have hlt : ρ < pw 1024 := by
      have h1 : ((x : Rat) + th) * pw k ≤ pw (64 + k) := by
        rw [pw_add]
        exact mulr (Rat.le_trans (Rat.add_le_add_left.2 (Rat.le_of_lt t1)) hx64) (pw_nn k)
      have h2 := hρ.rn.hi _ (rep_pw (by omega)) h1
      exact lelt h2 (pw_lt (by omega))
    obtain ⟨f1, f2, f3⟩ := hρ.fin hlt
    rw [f3]
    exact ⟨hρ.rn, hρ.inu, f1, f2⟩
  have hrel : ∀ th : Rat, 0 ≤ th → Rnd (((x : Rat) + th) * pw k) (mg (sqrtM a).1) → ab (mg (sqrtM a).1 - ((x : Rat) + th) * pw k) ≤ pw (-53) * (((x : Rat) + th) * pw k) := fun th t0 h => by
    refine h.rel ?_
    have h1 : pw (-1022) ≤ 1 * pw k := by rw [Rat.one_mul]; exact pw_le (by omega)
    refine Rat.le_trans h1 (mulr ?_ (pw_nn k))
    exact Rat.le_trans hxr1 (le_add t0)
  have hscale : ∀ {z : Rat}, z * pw k * (z * pw k) = z * z * (pw k * pw k) := sqsc
  have hpp : 0 < pw k * pw k := Rat.mul_pos hpk hpk
  cases ex with
  | true =>
    have hxx := x5.1 rfl
    obtain ⟨r1, r2, r3, r4⟩ := hth 0 Rat.le_refl (by decide) (by simp)
    have hrl := hrel 0 Rat.le_refl r1
    rw [Rat.add_zero] at r1 hrl
    have hvv : mg a = (x : Rat) * pw k * ((x : Rat) * pw k) := by
      rw [hv, ← hxx, hscale]; push_cast; rfl
    have hX0 : 0 ≤ (x : Rat) * pw k := mulnn (ile (a := 0) x0) (pw_nn k)
    refine ⟨_, r1.rep, r2, r3, r4, rfl, fun y hy hy0 hyy => ?_, fun y hy hy0 hyy => ?_, ⟨_, hX0, reqle hvv.symm, rnd_up hrl⟩, ⟨_, hX0, reqle hvv, rnd_dn hrl⟩, ⟨_, hX0, reqle hvv, r1⟩⟩
    · rw [hvv] at hyy
      exact r1.lo y hy (sq_le hX0 hyy)
    · rw [hvv] at hyy
      exact r1.hi y hy (sq_le hy0 hyy)
  | false =>
    have hne : x * x ≠ V := fun h => by have := x5.2 h; cases this
    have hlt1 : ((x : Rat)) * (x : Rat) + 1 ≤ (V : Rat) := by
      have h1 : ((x * x + 1 : Int) : Rat) ≤ (V : Rat) := ile (by omega)
      have h2 : ((x * x + 1 : Int) : Rat) = (x : Rat) * (x : Rat) + 1 := by push_cast; rfl
      rw [← h2]; exact h1
    have hlt2 : (V : Rat) + 1 ≤ ((x : Rat) + 1) * ((x : Rat) + 1) := by
      have h1 : ((V + 1 : Int) : Rat) ≤ (((x + 1) * (x + 1) : Int) : Rat) := ile (by omega)
      have h2 : ((V + 1 : Int) : Rat) = (V : Rat) + 1 := by push_cast; rfl
      have h3 : (((x + 1) * (x + 1) : Int) : Rat) = ((x : Rat) + 1) * ((x : Rat) + 1) := by push_cast; rfl
      rw [← h2, ← h3]; exact h1
    have hz : ∀ th : Rat, 0 < th → ((!false) = true ↔ th ≠ 0) := fun th h => ⟨fun _ e => by rw [e] at h; exact Rat.lt_irrefl h, fun _ => rfl⟩
    have hany := fun th t0 t1 => hth th (Rat.le_of_lt t0) t1 (hz th t0)
    obtain ⟨hh1, hh2, hh3⟩ := half_inY
    obtain ⟨r1, r2, r3, r4⟩ := hany (1 / 2) hh1 hh2
    -- between x and x + 1
    have hdiv : ∀ y : Rat, y / pw k * pw k = y := fun y => Rat.div_mul_cancel (pw_ne k)
    refine ⟨_, r1.rep, r2, r3, r4, rfl, fun y hy hy0 hyy => ?_, fun y hy hy0 hyy => ?_, ?_, ?_, ?_⟩
    · rcases Rat.le_total (a := y / pw k) (b := (x : Rat)) with h1 | h1
      · refine r1.lo y hy ?_
        have h2 := mulr (c := pw k) (Rat.le_trans h1 (le_add (Rat.le_of_lt hh1))) (pw_nn k)
        rw [hdiv] at h2; exact h2
      · have h2 : y / pw k < (x : Rat) + 1 := by
          refine lt_of_sq (Rat.le_trans (ile (a := 0) x0) (le_add (by decide))) ?_
          refine mulcl (c := pw k * pw k) ?_ hpp
          rw [← hscale, hdiv]
          rw [hv] at hyy
          have h3 := mulrl (c := pw k * pw k) (show (V : Rat) < ((x : Rat) + 1) * ((x : Rat) + 1) by exact lt_of_add1 hlt2) hpp
          exact lelt hyy h3
        by_cases h3 : y / pw k = (x : Rat)
        · refine r1.lo y hy ?_
          rw [← hdiv y, h3]
          exact mulr (le_add (Rat.le_of_lt hh1)) (pw_nn k)
        · have h4 : 0 < y / pw k - (x : Rat) := sub_pos' h1 h3
          have := (hany _ h4 (sub_lt1 h2)).1
          refine this.lo y hy ?_
          rw [add_sub, hdiv]; exact Rat.le_refl
    · rcases Rat.le_total (a := (x : Rat) + 1) (b := y / pw k) with h1 | h1
      · refine r1.hi y hy ?_
        have h2 := mulr (c := pw k) (Rat.le_trans (Rat.add_le_add_left.2 (Rat.le_of_lt hh2)) h1) (pw_nn k)
        rw [hdiv] at h2; exact h2
      · have h2 : (x : Rat) < y / pw k := by
          refine lt_of_sq (div_nn hy0 (pw_pos k)) ?_
          refine mulcl (c := pw k * pw k) ?_ hpp
          rw [← hscale, ← hscale, hdiv]
          rw [hv] at hyy
          have h3 := mulrl (c := pw k * pw k) (lt_of_add1 hlt1) hpp
          rw [← hscale] at h3
          exact ltle h3 hyy
        by_cases h3 : y / pw k = (x : Rat) + 1
        · refine r1.hi y hy ?_
          rw [← hdiv y, h3]
          exact mulr (Rat.add_le_add_left.2 (Rat.le_of_lt hh2)) (pw_nn k)
        · have h4 : 0 < y / pw k - (x : Rat) := sub_pos' (Rat.le_of_lt h2) (fun e => by rw [e] at h2; exact Rat.lt_irrefl h2)
          have := (hany _ h4 (sub_lt1 (lt_of_le_ne h1 h3))).1
          refine this.hi y hy ?_
          rw [add_sub, hdiv]; exact Rat.le_refl
    · obtain ⟨th, t0, t1, t2, _⟩ := th_pick hxr1
      obtain ⟨g1, _⟩ := hany th t0 t1
      refine ⟨_, mulnn (Rat.le_trans (ile (a := 0) x0) (le_add (Rat.le_of_lt t0))) (pw_nn k), ?_, rnd_up (hrel th (Rat.le_of_lt t0) g1)⟩
      rw [hscale, hv]
      exact mulr (Rat.le_trans t2 hlt1) (Rat.le_of_lt hpp)
    · obtain ⟨th, t0, t1, _, t2⟩ := th_pick hxr1
      obtain ⟨g1, _⟩ := hany (1 - th) (one_sub t1) (one_sub1 t0)
      refine ⟨_, mulnn (Rat.le_trans (ile (a := 0) x0) (le_add (Rat.le_of_lt (one_sub t1)))) (pw_nn k), ?_, rnd_dn (hrel (1 - th) (Rat.le_of_lt (one_sub t1)) g1)⟩
      rw [hscale, hv]
      refine mulr (Rat.le_trans ?_ t2) (Rat.le_of_lt hpp)
      exact le_sub1 hlt2
    · obtain ⟨th, t0, t1, _, t2⟩ := th_pick hxr1
      obtain ⟨g1, _⟩ := hany (1 - th) (one_sub t1) (one_sub1 t0)
      refine ⟨_, mulnn (Rat.le_trans (ile (a := 0) x0) (le_add (Rat.le_of_lt (one_sub t1)))) (pw_nn k), ?_, g1⟩
      rw [hscale, hv]
      refine mulr (Rat.le_trans ?_ t2) (Rat.le_of_lt hpp)
      exact le_sub1 hlt2
end Go.Proofs.YtcikcinkjbbnhaaDoor.M
