/- Sums, differences, quotients, roots, powers of two: as fractions. -/
import Derived.Test.YtcikcinkjbbnhaaDoorY4
set_option linter.unusedSimpArgs false
set_option linter.unusedVariables false
set_option maxRecDepth 10000
set_option maxHeartbeats 400000
namespace Go.Proofs.YtcikcinkjbbnhaaDoor.M
open Go Go.Proofs

theorem flip_eq' {b : Int} (h : InU b) : flipM b = (b + 9223372036854775808) % 18446744073709551616 := by
  obtain ⟨h1, h2⟩ := h
  unfold flipM
  go_bits2
  obtain ⟨x, rfl⟩ := Int.eq_ofNat_of_zero_le h1
  rw [Int.toNat_natCast]
  have hd : (x ^^^ 9223372036854775808) / 2 ^ 63 = (x / 2 ^ 63) ^^^ (9223372036854775808 / 2 ^ 63) := Nat.xor_div_two_pow
  have hm : (x ^^^ 9223372036854775808) % 2 ^ 63 = (x % 2 ^ 63) ^^^ (9223372036854775808 % 2 ^ 63) := Nat.xor_mod_two_pow
  have e1 : 9223372036854775808 / 2 ^ 63 = 1 := by decide
  have e2 : 9223372036854775808 % 2 ^ 63 = 0 := by decide
  have e3 : (2 : Nat) ^ 63 = 9223372036854775808 := by decide
  rw [e1, e3] at hd
  rw [e2, e3, Nat.xor_zero] at hm
  generalize x ^^^ 9223372036854775808 = z at hd hm ⊢
  have hx : x / 9223372036854775808 = 0 ∨ x / 9223372036854775808 = 1 := by omega
  rcases hx with hx | hx
  · rw [hx] at hd
    have e4 : (0 : Nat) ^^^ 1 = 1 := by decide
    omega
  · rw [hx] at hd
    have e4 : (1 : Nat) ^^^ 1 = 0 := by decide
    omega
theorem flip_fin {b : Int} (h : InU b) : finiteM (flipM b) = finiteM b := by
  unfold finiteM
  rw [expM_eq (flip_in b), expM_eq h, flip_eq' h, decide_eq_decide]
  have := h.1
  have := h.2
  omega
theorem flip_neg {b : Int} (h : InU b) : negM (flipM b) = !negM b := by
  rw [negM_eq (flip_in b), negM_eq h, flip_eq' h]
  have := h.1
  have := h.2
  rw [← decide_not, decide_eq_decide]
  omega
theorem flip_parts {b : Int} (h : InU b) (hf : finiteM b = true) : partsM (flipM b) = partsM b := by
  have h1 := h.1
  have h2 := h.2
  rw [parts_eq (flip_in b) (by rw [flip_fin h]; exact hf), parts_eq h hf, expM_eq (flip_in b), expM_eq h, flip_eq' h]
  have e1 : (b + 9223372036854775808) % 18446744073709551616 % 9223372036854775808 = b % 9223372036854775808 := by omega
  have e2 : (b + 9223372036854775808) % 18446744073709551616 / 4503599627370496 % 2048 = 0 ↔ b / 4503599627370496 % 2048 = 0 ∨ b / 4503599627370496 % 2048 = 0 := by
    have hfe : expM b < 2047 := by simpa [finiteM] using hf
    rw [expM_eq h] at hfe
    omega
  have e3 : (b + 9223372036854775808) % 18446744073709551616 % 4503599627370496 = b % 4503599627370496 := by omega
  have e4 : (b + 9223372036854775808) % 18446744073709551616 / 4503599627370496 % 2048 = b / 4503599627370496 % 2048 := by omega
  rw [e1, e3, e4]
theorem flip_mg {b : Int} (h : InU b) (hf : finiteM b = true) : mg (flipM b) = mg b := by unfold mg; rw [flip_parts h hf]
theorem flip_val {b : Int} (h : InU b) (hf : finiteM b = true) : val (flipM b) = -val b := by
  unfold val
  rw [flip_neg h, flip_mg h hf, sgn_not, Rat.neg_mul]
/-- The value of what is rounded, if it is a number. -/
theorem RdOf.val {s : Bool} {X : Rat} {r : Int × Int} {ρ : Rat} (h : RdOf s X r ρ) (hlt : ρ < pw 1024) : finiteM r.1 = true ∧ val r.1 = sgn s * ρ := by
  obtain ⟨h1, h2, h3⟩ := h.fin hlt
  exact ⟨h1, by unfold M.val; rw [h2, h3]⟩

theorem sgn_ne {s t : Bool} (h : s ≠ t) : sgn t = -sgn s := by cases s <;> cases t <;> simp_all [sgn]
theorem sg_ab {s : Bool} {x : Rat} (h : 0 ≤ x) : ab (sgn s * x) = x := by rw [ab_sgn, ab_of h]
theorem dist2 {s x y : Rat} : s * x + s * y = s * (x + y) := by grind
theorem dist3 {s x y : Rat} : s * x + -s * y = s * (x - y) := by grind
/-- A sum. -/
theorem add_val {a b : Int} (ha : InU a) (hb : InU b) (fa : finiteM a = true) (fb : finiteM b = true) :
    ∃ s ρ, RdOf s (ab (val a + val b)) (addM a b) ρ ∧ sgn s * ab (val a + val b) = val a + val b := by
  have ka := fin_kk fa
  have kb := fin_kk fb
  have hself : ∀ c : Int, InU c → finiteM c = true → ∃ s ρ, RdOf s (ab (val c)) (c, 0) ρ ∧ sgn s * ab (val c) = val c := fun c hc fc => by
    refine ⟨negM c, mg c, ?_, ?_⟩
    · rw [ab_val hc]; exact RdOf.self hc fc
    · rw [ab_val hc]; rfl
  have key : ∀ c d : Int, InU c → InU d → finiteM c = true → finiteM d = true → ¬ kindM c = 1 → ¬ kindM d = 1 → absM d ≤ absM c → ∃ s ρ, RdOf s (ab (val c + val d)) (add2 c d) ρ ∧ sgn s * ab (val c + val d) = val c + val d := fun c d hc hd fc fd zc zd hcd => by
    obtain ⟨ρ, h1, h2⟩ := add2_val hc hd fc fd zc zd hcd
    by_cases hs : negM c = negM d
    · have e : val c + val d = sgn (negM c) * (mg c + mg d) := by
        unfold M.val; rw [← hs, dist2]
      have hnn : 0 ≤ mg c + mg d := by have := mg_nn hc; have := mg_nn hd; grind
      rw [e, sg_ab hnn]
      exact ⟨negM c, ρ, h1 hs, rfl⟩
    · obtain ⟨hle, s, h3, h4⟩ := h2 hs
      have e : val c + val d = sgn (negM c) * (mg c - mg d) := by
        unfold M.val; rw [sgn_ne hs, dist3]
      have hnn : 0 ≤ mg c - mg d := by grind
      rw [e, sg_ab hnn]
      refine ⟨s, ρ, h4, ?_⟩
      by_cases hlt : mg d < mg c
      · rw [h3 hlt]
      · have : mg c - mg d = 0 := by grind
        rw [this, Rat.mul_zero, Rat.mul_zero]
  unfold addM
  rw [nan_ff fa fb, if_neg (by decide), if_neg (fun h => ka.2 h.1), if_neg ka.2, if_neg kb.2]
  by_cases za : kindM a = 1
  · have va : val a = 0 := (val_zero ha fa).2 za
    rw [va, Rat.zero_add]
    by_cases zb : kindM b = 1
    · rw [if_pos ⟨za, zb⟩]
      have vb : val b = 0 := (val_zero hb fb).2 zb
      have hz : bits .and .u64 a b = 0 ∨ bits .and .u64 a b = 9223372036854775808 := by
        have h1 := (kind_zero ha).1 za
        have h2 := (kind_zero hb).1 zb
        rw [absM_eq ha] at h1
        rw [absM_eq hb] at h2
        have a1 := ha.1
        have a2 := ha.2
        have b1 := hb.1
        have b2 := hb.2
        have hA : a = 0 ∨ a = 9223372036854775808 := by omega
        have hB : b = 0 ∨ b = 9223372036854775808 := by omega
        rcases hA with rfl | rfl <;> rcases hB with rfl | rfl <;> decide
      rw [vb]
      rcases hz with hz | hz
      · rw [hz]
        have := hself 0 zero_in (by decide)
        rwa [(val_zero zero_in (by decide)).2 (by decide)] at this
      · rw [hz]
        have hi : InU 9223372036854775808 := by constructor <;> decide
        have := hself 9223372036854775808 hi (by decide)
        rwa [(val_zero hi (by decide)).2 (by decide)] at this
    · rw [if_neg (fun h => zb h.2), if_pos za]
      exact hself b hb fb
  · by_cases zb : kindM b = 1
    · have vb : val b = 0 := (val_zero hb fb).2 zb
      rw [if_neg (fun h => za h.1), if_neg za, if_pos zb, vb, Rat.add_zero]
      exact hself a ha fa
    · rw [if_neg (fun h => za h.1), if_neg za, if_neg zb]
      split
      · rename_i hlt
        rw [Rat.add_comm (val a)]
        exact key b a hb ha fb fa zb za (by omega)
      · rename_i hge
        exact key a b ha hb fa fb za zb (by omega)
/-- A difference. -/
theorem sub_val {a b : Int} (ha : InU a) (hb : InU b) (fa : finiteM a = true) (fb : finiteM b = true) :
    ∃ s ρ, RdOf s (ab (val a - val b)) (addM a (flipM b)) ρ ∧ sgn s * ab (val a - val b) = val a - val b := by
  have := add_val ha (flip_in b) fa (by rw [flip_fin hb]; exact fb)
  rw [flip_val hb fb, ← Rat.sub_eq_add_neg] at this
  exact this

/-- A number times a power of two. -/
theorem scale_val {a n : Int} (ha : InU a) (fa : finiteM a = true) (hn : -1900 ≤ n ∧ n ≤ 1900) : ∃ ρ, RdOf (negM a) (mg a * pw n) (scaleM a n) ρ := by
  have ka := fin_kk fa
  have ea := part_e ha fa
  have pa := parts53 ha
  have hc : (if -10000 < (if 10000 < n then 10000 else n) then (if 10000 < n then 10000 else n) else -10000) = n := by
    rw [if_neg (by omega : ¬ 10000 < n), if_pos (by omega)]
  unfold scaleM
  rw [if_neg ka.1, hc]
  by_cases z : kindM a = 1
  · rw [if_pos (.inr z)]
    have h0 := (mg_zero ha fa).2 z
    have := RdOf.self ha fa
    rw [h0] at this
    exact ⟨0, by rw [h0, Rat.zero_mul]; exact this⟩
  · rw [if_neg (fun h => h.elim ka.2 z), wrap_i64 (by omega)]
    refine round_val _ ⟨zero_in, parts_in ha⟩ (by omega) (th := 0) ⟨Rat.le_refl, by decide⟩ (by simp) (by simp) ?_
    rw [wv_z, pw_add, Rat.add_zero]
    unfold mg
    rw [Rat.mul_assoc]

theorem zdiv (x : Rat) : 0 / x = 0 := by rw [Rat.div_def, Rat.zero_mul]
theorem reqle {x y : Rat} (h : x = y) : x ≤ y := h ▸ Rat.le_refl
theorem quo_eq {M hi D Q R a b E F u d : Rat} (hM : hi = M * u) (hD : D ≠ 0) (he : hi * 18446744073709551616 = Q * D + R) : (Q + R / D) * D = hi * 18446744073709551616 := by
  have : R / D * D = R := Rat.div_mul_cancel hD
  grind
/-- A quotient. -/
theorem div_val {a b : Int} (ha : InU a) (hb : InU b) (fa : finiteM a = true) (fb : finiteM b = true) (zb : ¬ kindM b = 1) : ∃ ρ, RdOf (negM a != negM b) (mg a / mg b) (divM a b) ρ := by
  have ka := fin_kk fa
  have kb := fin_kk fb
  have pa := parts53 ha
  have pb := parts53 hb
  have ea := part_e ha fa
  have eb := part_e hb fb
  unfold divM
  rw [nan_ff fa fb, if_neg (by decide), if_neg (fun h => h.elim (fun h => ka.2 h.1) (fun h => zb h.2)), if_neg ka.2]
  by_cases za : kindM a = 1
  · rw [if_pos (.inr za), (mg_zero ha fa).2 za, zdiv]
    have hi := make_in (negM a != negM b) 0 0
    have hf := finite_make (negM a != negM b) (e := 0) (f := 0) (by decide) (by decide) zero_in
    have := RdOf.self hi hf
    rw [mg_make0 _ (by decide) (by decide), neg_make _ (by decide) (by decide) zero_in, Rat.intCast_zero, Rat.zero_mul] at this
    exact ⟨0, this⟩
  rw [if_neg (fun h => h.elim kb.2 za), if_neg zb]
  -- both as long as can be
  have hma : 1 ≤ (partsM a).1 := by
    rcases Int.lt_or_le 0 (partsM a).1 with h | h
    · omega
    · exfalso
      have h0 : (partsM a).1 = 0 := by omega
      have := mg_pos ha fa za
      unfold mg at this
      rw [h0, Rat.intCast_zero, Rat.zero_mul] at this
      exact Rat.lt_irrefl this
  have hmb : 1 ≤ (partsM b).1 := by
    rcases Int.lt_or_le 0 (partsM b).1 with h | h
    · omega
    · exfalso
      have h0 : (partsM b).1 = 0 := by omega
      have := mg_pos hb fb zb
      unfold mg at this
      rw [h0, Rat.intCast_zero, Rat.zero_mul] at this
      exact Rat.lt_irrefl this
  obtain ⟨A, hA⟩ := Int.eq_ofNat_of_zero_le pa.1
  obtain ⟨B, hB⟩ := Int.eq_ofNat_of_zero_le pb.1
  have wa : InW (0, (partsM a).1) := ⟨zero_in, parts_in ha⟩
  have wb : InW (0, (partsM b).1) := ⟨zero_in, parts_in hb⟩
  obtain ⟨La, la1, la2, la3⟩ := wlen_v wa
  obtain ⟨Lb, lb1, lb2, lb3⟩ := wlen_v wb
  rw [wv_z] at la3 lb3
  have lae := wlen53 ⟨pa.1, pa.2⟩
  have lbe := wlen53 ⟨pb.1, pb.2⟩
  rw [la1] at lae
  rw [lb1] at lbe
  have hau : upD (partsM a).1 = 53 - (La : Int) := by unfold upD; rw [la1, wrap_i64 (by omega)]
  have hbd : downD (partsM b).1 = 64 - (Lb : Int) := by unfold downD; rw [lb1, wrap_i64 (by omega)]
  obtain ⟨u, hu⟩ := Int.eq_ofNat_of_zero_le (show 0 ≤ 63 - (La : Int) by omega)
  obtain ⟨d, hd⟩ := Int.eq_ofNat_of_zero_le (show 0 ≤ 64 - (Lb : Int) by omega)
  have ha3 := la3.2 (by omega)
  have hb3 := lb3.2 (by omega)
  have hup := ppos u
  have hdp := ppos d
  have c2 : ∀ k : Nat, ((2 : Int) ^ k) = ((2 ^ k : Nat) : Int) := fun k => by push_cast; rfl
  -- the dividend's upper half, the divisor
  have hhi : (partsM a).1 * 2 ^ u < 9223372036854775808 ∧ 4611686018427387904 ≤ (partsM a).1 * 2 ^ u := by
    have h1 : (partsM a).1 * 2 ^ u < 2 ^ La * 2 ^ u := Int.mul_lt_mul_of_pos_right la3.1 hup
    have h2 : (2 : Int) ^ La * 2 ^ u ≤ 2 * (partsM a).1 * 2 ^ u := Int.mul_le_mul_of_nonneg_right ha3 (Int.le_of_lt hup)
    rw [← Int.pow_add, show La + u = 63 by omega] at h1 h2
    have e63 : (2 : Int) ^ 63 = 9223372036854775808 := by decide
    rw [Int.mul_assoc] at h2
    omega
  have hdi : (partsM b).1 * 2 ^ d < 18446744073709551616 ∧ 9223372036854775808 ≤ (partsM b).1 * 2 ^ d := by
    have h1 : (partsM b).1 * 2 ^ d < 2 ^ Lb * 2 ^ d := Int.mul_lt_mul_of_pos_right lb3.1 hdp
    have h2 : (2 : Int) ^ Lb * 2 ^ d ≤ 2 * (partsM b).1 * 2 ^ d := Int.mul_le_mul_of_nonneg_right hb3 (Int.le_of_lt hdp)
    rw [← Int.pow_add, show Lb + d = 64 by omega] at h1 h2
    have e64 : (2 : Int) ^ 64 = 18446744073709551616 := by decide
    rw [Int.mul_assoc] at h2
    omega
  obtain ⟨X, hX⟩ := Int.eq_ofNat_of_zero_le (show 0 ≤ (partsM a).1 * 2 ^ u by omega)
  obtain ⟨Y, hY⟩ := Int.eq_ofNat_of_zero_le (show 0 ≤ (partsM b).1 * 2 ^ d by omega)
  rw [hX] at hhi
  rw [hY] at hdi
  have s1 : shlV .u64 (partsM a).1 (IntKind.i64.wrap (upD (partsM a).1 + 10)) = (X : Int) := by
    rw [hau, wrap_i64 (by omega), show (53 - (La : Int) + 10) = (u : Int) by omega, shlK (by omega), Int.toNat_natCast, hX]; omega
  have s2 : shlV .u64 (partsM b).1 (downD (partsM b).1) = (Y : Int) := by
    rw [hbd, show (64 - (Lb : Int)) = (d : Int) by omega, shlK (by omega), Int.toNat_natCast, hY]; omega
  have hXY : X < Y := by omega
  have hq : quoM a b = ((((X * 18446744073709551616) / Y : Nat) : Int), (((X * 18446744073709551616) % Y : Nat) : Int), true) := by
    unfold quoM wdivM
    rw [s1, s2]
    dsimp only
    rw [if_neg (by omega)]
    have := div64_val (h := X) (l := 0) (y := Y) hXY (by decide) (by omega)
    rw [Nat.add_zero] at this
    have h0 : (((0 : Nat) : Int)) = 0 := rfl
    rw [h0] at this
    rw [this]
  rw [hq]
  dsimp only
  have hde := Nat.div_add_mod (X * 18446744073709551616) Y
  have hml := Nat.mod_lt (X * 18446744073709551616) (show 0 < Y by omega)
  have hql : 4611686018427387904 ≤ X * 18446744073709551616 / Y := by
    rw [Nat.le_div_iff_mul_le (by omega)]
    omega
  have hqu : X * 18446744073709551616 / Y < 18446744073709551616 := by
    rw [Nat.div_lt_iff_lt_mul (by omega), Nat.mul_comm 18446744073709551616]
    exact Nat.mul_lt_mul_of_pos_right hXY (by decide)
  obtain ⟨Q, hQ⟩ : ∃ Q, X * 18446744073709551616 / Y = Q := ⟨_, rfl⟩
  obtain ⟨R, hR⟩ : ∃ R, X * 18446744073709551616 % Y = R := ⟨_, rfl⟩
  rw [hQ, hR] at hde
  rw [hR] at hml
  rw [hQ] at hql hqu
  rw [hQ, hR]
  have hwr : IntKind.i64.wrap (IntKind.i64.wrap (IntKind.i64.wrap (IntKind.i64.wrap ((partsM a).2 - upD (partsM a).1) - 10) - 64) - IntKind.i64.wrap ((partsM b).2 - downD (partsM b).1)) = (partsM a).2 - (u : Int) - 64 - (partsM b).2 + (d : Int) := by
    rw [hau, hbd, wrap_i64 (n := (partsM a).2 - (53 - (La : Int))) (by omega), wrap_i64 (n := (partsM a).2 - (53 - (La : Int)) - 10) (by omega), wrap_i64 (n := (partsM a).2 - (53 - (La : Int)) - 10 - 64) (by omega), wrap_i64 (n := (partsM b).2 - (64 - (Lb : Int))) (by omega), wrap_i64 (by omega)]
    omega
  rw [hwr]
  have hYr : (0 : Rat) < ((Y : Int) : Rat) := ilt (a := 0) (by omega)
  have hQw : InW ((0, (Q : Int)) : W2) := ⟨zero_in, by constructor <;> (dsimp only; omega)⟩
  have hth : (R : Rat) / ((Y : Int) : Rat) * ((Y : Int) : Rat) = (R : Rat) := Rat.div_mul_cancel (by intro h; rw [h] at hYr; exact Rat.lt_irrefl hYr)
  have hRc : (R : Rat) = ((R : Int) : Rat) := by push_cast; rfl
  obtain ⟨th, hthe⟩ : ∃ th : Rat, (R : Rat) / ((Y : Int) : Rat) = th := ⟨_, rfl⟩
  rw [hthe] at hth
  have th0 : 0 ≤ th := by
    refine mulc (c := ((Y : Int) : Rat)) ?_ hYr
    rw [hth, Rat.zero_mul, hRc]
    exact ile (a := 0) (by omega)
  have th1 : th < 1 := by
    refine mulcl (c := ((Y : Int) : Rat)) ?_ hYr
    rw [hth, Rat.one_mul, hRc]
    exact ilt (by omega)
  have thz : th = 0 ↔ R = 0 := by
    constructor
    · intro e
      rw [e, Rat.zero_mul, hRc] at hth
      have := izero hth.symm
      omega
    · intro e
      rw [hRc, e] at hth
      have h0 : th * ((Y : Int) : Rat) = 0 := by rw [hth]; rfl
      rcases Rat.mul_eq_zero.1 h0 with h1 | h1
      · exact h1
      · rw [h1] at hYr; exact absurd hYr Rat.lt_irrefl
  refine round_val _ hQw (by omega) (th := th) ⟨th0, th1⟩ (by
    rw [decide_eq_true_eq]
    constructor
    · intro h e; exact h (by have := thz.1 e; omega)
    · intro h e; exact h (thz.2 (by omega))) (fun _ => by rw [wv_z]; omega) ?_
  -- the quotient of both
  rw [wv_z]
  have e1 : mg a * pw u = ((X : Int) : Rat) * pw (partsM a).2 := by
    unfold mg; rw [← hX, pw_nat]; push_cast
    rw [Rat.mul_assoc, Rat.mul_assoc, Rat.mul_comm (pw _)]
  have e2 : mg b * pw d = ((Y : Int) : Rat) * pw (partsM b).2 := by
    unfold mg; rw [← hY, pw_nat]; push_cast
    rw [Rat.mul_assoc, Rat.mul_assoc, Rat.mul_comm (pw _)]
  have e3 : (((Q : Int) : Rat) + th) * ((Y : Int) : Rat) = ((X : Int) : Rat) * pw 64 := by
    have h64 : pw 64 = (18446744073709551616 : Rat) := pw_lit (k := 18446744073709551616) (by decide) (by decide)
    have h1 : (Y : Int) * (Q : Int) + (R : Int) = (X : Int) * 18446744073709551616 := by
      have h0 : ((Y * Q + R : Nat) : Int) = ((X * 18446744073709551616 : Nat) : Int) := by rw [hde]
      rw [Int.natCast_add, Int.natCast_mul, Int.natCast_mul] at h0
      exact h0
    have h2 := congrArg (fun z : Int => (z : Rat)) h1
    simp only [Rat.intCast_add, Rat.intCast_mul] at h2
    rw [h64, Rat.add_mul, hth, hRc, Rat.mul_comm ((Q : Int) : Rat)]
    exact h2
  have hbp := mg_pos hb fb zb
  have e4 : pw ((partsM a).2 - (u : Int) - 64 - (partsM b).2 + (d : Int)) * (pw u * pw 64 * pw (partsM b).2) = pw (partsM a).2 * pw d := by
    rw [← pw_add, ← pw_add, ← pw_add, ← pw_add]; congr 1; omega
  -- what is asked, times all that is divided by
  have hcan : ∀ x y c : Rat, 0 < c → x * c = y * c → x = y := fun x y c hc e => Rat.le_antisymm (mulc (reqle e) hc) (mulc (reqle e.symm) hc)
  refine hcan _ _ (mg b * (pw u * pw 64 * pw (partsM b).2)) (Rat.mul_pos hbp (Rat.mul_pos (Rat.mul_pos (pw_pos _) (pw_pos _)) (pw_pos _))) ?_
  have l1 : mg a / mg b * mg b = mg a := Rat.div_mul_cancel (by intro h; rw [h] at hbp; exact Rat.lt_irrefl hbp)
  have fin : ∀ {ma mb u6 ub ea eb ed Q' Y' X' th' E' q : Rat}, q * mb = ma → ma * ub = X' * ea → mb * ed = Y' * eb → (Q' + th') * Y' = X' * u6 → E' * (ub * u6 * eb) = ea * ed → q * (mb * (ub * u6 * eb)) = (Q' + th') * E' * (mb * (ub * u6 * eb)) := by
    intro ma mb u6 ub ea eb ed Q' Y' X' th' E' q g1 g2 g3 g4 g5
    have k1 : q * (mb * (ub * u6 * eb)) = ma * ub * u6 * eb := by rw [← g1]; grind
    have k2 : (Q' + th') * E' * (mb * (ub * u6 * eb)) = (Q' + th') * mb * (E' * (ub * u6 * eb)) := by grind
    rw [k1, k2, g5, g2]
    have k3 : (Q' + th') * mb * (ea * ed) = (Q' + th') * (mb * ed) * ea := by grind
    rw [k3, g3]
    have k4 : (Q' + th') * (Y' * eb) * ea = (Q' + th') * Y' * eb * ea := by grind
    rw [k4, g4]
    grind
  exact fin l1 e1 e2 e3 e4
end Go.Proofs.YtcikcinkjbbnhaaDoor.M
