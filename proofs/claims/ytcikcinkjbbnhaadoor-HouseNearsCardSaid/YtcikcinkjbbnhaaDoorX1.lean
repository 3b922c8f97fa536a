/- Wide numbers by their value. -/
import Derived.Test.YtcikcinkjbbnhaaDoorC37
set_option linter.unusedSimpArgs false
set_option linter.unusedVariables false
set_option maxRecDepth 10000
set_option maxHeartbeats 4000000
namespace Go.Proofs.YtcikcinkjbbnhaaDoor.M
open Go Go.Proofs

def wv (w : W2) : Int := w.1 * 18446744073709551616 + w.2
theorem wv_in {w : W2} (h : InW w) : 0 ≤ wv w ∧ wv w < 340282366920938463463374607431768211456 := by
  obtain ⟨⟨h1, h2⟩, h3, h4⟩ := h
  unfold wv; omega
theorem wv_z (x : Int) : wv (0, x) = x := by unfold wv; dsimp only; omega
theorem wadd_v {a b : W2} (ha : InW a) (hb : InW b) : wv (waddM a b).1 = (wv a + wv b) % 340282366920938463463374607431768211456 := by
  obtain ⟨⟨h1, h2⟩, h3, h4⟩ := ha
  obtain ⟨⟨g1, g2⟩, g3, g4⟩ := hb
  simp only [wv, waddM, add64M]; omega
theorem wsub_v {a b : W2} (ha : InW a) (hb : InW b) : wv (wsubM a b).1 = (wv a - wv b) % 340282366920938463463374607431768211456 := by
  obtain ⟨⟨h1, h2⟩, h3, h4⟩ := ha
  obtain ⟨⟨g1, g2⟩, g3, g4⟩ := hb
  simp only [wv, wsubM, sub64M]; split <;> omega
theorem wzero_v {w : W2} (h : InW w) : wzeroM w = decide (wv w = 0) := by
  obtain ⟨⟨h1, h2⟩, h3, h4⟩ := h
  unfold wzeroM
  rw [decide_eq_decide, Go.u64_or _ _ h1 h2 h3 h4]
  have hz : w.1.toNat ||| w.2.toNat = 0 ↔ w.1.toNat = 0 ∧ w.2.toNat = 0 := Nat.or_eq_zero_iff
  unfold wv
  constructor
  · intro h
    have := hz.1 (by exact_mod_cast h)
    omega
  · intro h
    have := hz.2 (by omega)
    exact_mod_cast this
theorem mul64_v {x y : Int} (hx : InU x) (hy : InU y) : wv (mul64M x y) = x * y := by
  obtain ⟨h1, h2⟩ := hx
  obtain ⟨h3, h4⟩ := hy
  have e32 : (2 : Int) ^ (32 : Int).toNat = 4294967296 := by decide
  have a32 : ∀ z : Int, 0 ≤ z → z < 18446744073709551616 → bits .and .u64 z 4294967295 = z % 4294967296 := fun z h h' => by go_bits2
  have b1 : bits .and .u64 x 4294967295 = x % 4294967296 := a32 x h1 h2
  have b2 : bits .and .u64 y 4294967295 = y % 4294967296 := a32 y h3 h4
  have s1 : ∀ z, shrV .u64 z 32 = z / 4294967296 := fun z => by rw [shrK (by omega), e32]
  have ex := Int.mul_ediv_add_emod x 4294967296
  have ey := Int.mul_ediv_add_emod y 4294967296
  unfold mul64M
  simp only [b1, b2, s1, wrap_u64]
  obtain ⟨p, hp⟩ : ∃ p, x % 4294967296 = p := ⟨_, rfl⟩
  obtain ⟨q, hq⟩ : ∃ q, x / 4294967296 = q := ⟨_, rfl⟩
  obtain ⟨r, hr⟩ : ∃ r, y % 4294967296 = r := ⟨_, rfl⟩
  obtain ⟨s, hs⟩ : ∃ s, y / 4294967296 = s := ⟨_, rfl⟩
  rw [hp, hq] at ex ⊢
  rw [hr, hs] at ey ⊢
  have p0 : 0 ≤ p ∧ p ≤ 4294967295 := by omega
  have q0 : 0 ≤ q ∧ q ≤ 4294967295 := by omega
  have r0 : 0 ≤ r ∧ r ≤ 4294967295 := by omega
  have s0 : 0 ≤ s ∧ s ≤ 4294967295 := by omega
  have bd : ∀ {u v : Int}, 0 ≤ u ∧ u ≤ 4294967295 → 0 ≤ v ∧ v ≤ 4294967295 → 0 ≤ u * v ∧ u * v ≤ 18446744065119617025 := fun hu hv => ⟨Int.mul_nonneg hu.1 hv.1, by
    have := Int.mul_le_mul hu.2 hv.2 hv.1 (by omega)
    omega⟩
  have k1 := bd p0 r0
  have k2 := bd q0 r0
  have k3 := bd p0 s0
  have k4 := bd q0 s0
  have exy : x * y = 18446744073709551616 * (q * s) + 4294967296 * (q * r + p * s) + p * r := by
    rw [← ex, ← ey]
    simp only [Int.add_mul, Int.mul_add, Int.mul_assoc]
    have e1 : q * (4294967296 * s) = 4294967296 * (q * s) := Int.mul_left_comm _ _ _
    have e2 : p * (4294967296 * s) = 4294967296 * (p * s) := Int.mul_left_comm _ _ _
    rw [e1, e2]
    omega
  rw [exy]
  clear exy ex ey hp hq hr hs b1 b2 s1 a32
  generalize p * r = A at *
  generalize q * r = B at *
  generalize p * s = C at *
  generalize q * s = D at *
  have w1 : A % 18446744073709551616 = A := by omega
  have w2 : B % 18446744073709551616 = B := by omega
  have w3 : C % 18446744073709551616 = C := by omega
  have w4 : D % 18446744073709551616 = D := by omega
  have a2 : ∀ z : Int, 0 ≤ z → z < 18446744073709551616 → bits .and .u64 z 4294967295 = z % 4294967296 := fun z h h' => by go_bits2
  rw [w1, w2, w3, w4]
  rw [a2 _ (Int.emod_nonneg _ (by omega)) (Int.emod_lt_of_pos _ (by omega))]
  unfold wv
  dsimp only
  omega
theorem wlen_v {w : W2} (h : InW w) : ∃ L : Nat, wlenM w = L ∧ L ≤ 128 ∧ Ln (wv w) L := by
  obtain ⟨⟨h1, h2⟩, h3, h4⟩ := h
  unfold wlenM
  split
  · rename_i h0
    obtain ⟨L, e1, e2, e3⟩ := lenM_ln (x := w.2) ⟨h3, h4⟩
    refine ⟨L, e1, by omega, ?_⟩
    have : wv w = w.2 := by unfold wv; omega
    rw [this]; exact e3
  · rename_i h0
    obtain ⟨L, e1, e2, e3⟩ := lenM_ln (x := w.1) ⟨h1, h2⟩
    refine ⟨64 + L, by rw [e1, wrap_i64 (by omega)]; omega, by omega, ?_⟩
    have hd : wv w / 2 ^ 64 = w.1 := by
      have : (2 : Int) ^ 64 = 18446744073709551616 := by decide
      rw [this]; unfold wv; omega
    have hp : (2 : Int) ^ 64 ≤ wv w := by
      have : (2 : Int) ^ 64 = 18446744073709551616 := by decide
      rw [this]; unfold wv; omega
    exact Ln.up hp (by rw [hd]; exact e3)
theorem or_add {x y : Int} {n : Nat} (hx : InU x) (hy : InU y) (hd : ∃ k, x = 2 ^ n * k) (hl : y < 2 ^ n) : bits .or .u64 x y = x + y := by
  obtain ⟨h1, h2⟩ := hx
  obtain ⟨h3, h4⟩ := hy
  rw [Go.u64_or _ _ h1 h2 h3 h4]
  obtain ⟨k, rfl⟩ := hd
  have hp : (0 : Int) < 2 ^ n := Int.pow_pos (by omega)
  have hk : 0 ≤ k := by
    rcases Int.lt_or_le k 0 with h | h
    · have : (2 : Int) ^ n * k ≤ 2 ^ n * (-1) := Int.mul_le_mul_of_nonneg_left (by omega) (Int.le_of_lt hp)
      omega
    · exact h
  obtain ⟨k, rfl⟩ := Int.eq_ofNat_of_zero_le hk
  obtain ⟨y, rfl⟩ := Int.eq_ofNat_of_zero_le h3
  have hl2 : y < 2 ^ n := by exact_mod_cast hl
  have e1 : ((2 : Int) ^ n * (k : Int)).toNat = 2 ^ n * k := by
    have : ((2 : Int) ^ n * (k : Int)) = ((2 ^ n * k : Nat) : Int) := by push_cast; rfl
    rw [this, Int.toNat_natCast]
  have e2 : ((2 ^ n * k : Nat) : Int) = (2 : Int) ^ n * k := by push_cast; rfl
  rw [e1, Int.toNat_natCast, ← Nat.two_pow_add_eq_or_of_lt hl2, Int.natCast_add, e2]
theorem p64 {n : Nat} (h : n ≤ 64) : (2 : Int) ^ n * 2 ^ (64 - n) = 18446744073709551616 := by
  rw [← Int.pow_add, show n + (64 - n) = 64 by omega]; decide
theorem ppos (n : Nat) : (0 : Int) < 2 ^ n := Int.pow_pos (by omega)
theorem wleft_v {a : W2} (ha : InW a) {n : Nat} (hn : n < 128) : wv (wleftM a n) = wv a * 2 ^ n % 340282366920938463463374607431768211456 := by
  have hb := wv_in ha
  obtain ⟨⟨h1, h2⟩, h3, h4⟩ := ha
  unfold wleftM
  by_cases h0 : (n : Int) ≤ 0
  · rw [if_pos h0]
    have : n = 0 := by omega
    subst this
    rw [Int.pow_zero, Int.mul_one, Int.emod_eq_of_lt hb.1 hb.2]
  rw [if_neg h0, if_neg (by omega)]
  by_cases h64 : (64 : Int) ≤ n
  · rw [if_pos h64, wrap_i64 (by omega), shlK (by omega)]
    have e : ((n : Int) - 64).toNat = n - 64 := by omega
    have e2 : (2 : Int) ^ n = 2 ^ (n - 64) * 18446744073709551616 := by
      have : (18446744073709551616 : Int) = 2 ^ 64 := by decide
      rw [this, ← Int.pow_add]; congr 1; omega
    rw [e, e2]
    unfold wv
    dsimp only
    have e3 : (a.1 * 18446744073709551616 + a.2) * (2 ^ (n - 64) * 18446744073709551616) = (a.1 * 2 ^ (n - 64)) * 340282366920938463463374607431768211456 + (a.2 * 2 ^ (n - 64)) * 18446744073709551616 := by
      have l1 : ∀ x y P : Int, (x * 18446744073709551616 + y) * (P * 18446744073709551616) = (x * P) * 340282366920938463463374607431768211456 + (y * P) * 18446744073709551616 := fun x y P => by
        have e : (x * 18446744073709551616 + y) * (P * 18446744073709551616) = ((x * P) * 18446744073709551616 + y * P) * 18446744073709551616 := by
          rw [← Int.mul_assoc, Int.add_mul, Int.mul_right_comm x]
        rw [e]
        generalize x * P = X
        generalize y * P = Y
        omega
      exact l1 _ _ _
    rw [e3]
    generalize a.1 * 2 ^ (n - 64) = X
    generalize a.2 * 2 ^ (n - 64) = Y
    omega
  · rw [if_neg h64, wrap_i64 (by omega), shlK (by omega), shlK (by omega), shrK (by omega)]
    have e : (n : Int).toNat = n := by omega
    have e1 : (64 - (n : Int)).toNat = 64 - n := by omega
    rw [e, e1]
    have hP := ppos n
    have hQ := ppos (64 - n)
    have hPQ := p64 (n := n) (by omega)
    have hdiv : a.2 * 2 ^ n / 18446744073709551616 = a.2 / 2 ^ (64 - n) := by
      rw [← hPQ, Int.mul_comm (2 ^ n) (2 ^ (64 - n)), Int.mul_ediv_mul_of_pos_left _ _ hP]
    have hlt : a.2 / 2 ^ (64 - n) < 2 ^ n := by
      rw [Int.ediv_lt_iff_lt_mul hQ, hPQ]; exact h4
    have hge : 0 ≤ a.2 / 2 ^ (64 - n) := Int.ediv_nonneg h3 (Int.le_of_lt hQ)
    have hle : a.2 / 2 ^ (64 - n) ≤ a.2 := Int.ediv_le_self _ h3
    rw [or_add (n := n) ⟨Int.emod_nonneg _ (by omega), Int.emod_lt_of_pos _ (by omega)⟩ ⟨hge, by omega⟩ ?_ hlt]
    · unfold wv
      dsimp only
      have e3 : (a.1 * 18446744073709551616 + a.2) * 2 ^ n = (a.1 * 2 ^ n) * 18446744073709551616 + a.2 * 2 ^ n := by
        rw [Int.add_mul, Int.mul_right_comm]
      rw [← hdiv, e3]
      have hX : 0 ≤ a.1 * 2 ^ n := Int.mul_nonneg h1 (Int.le_of_lt hP)
      have hY : 0 ≤ a.2 * 2 ^ n := Int.mul_nonneg h3 (Int.le_of_lt hP)
      have hY2 : a.2 * 2 ^ n / 18446744073709551616 < 18446744073709551616 := by rw [hdiv]; omega
      have hsum : a.1 * 2 ^ n % 18446744073709551616 + a.2 * 2 ^ n / 18446744073709551616 < 18446744073709551616 := by
        obtain ⟨k, hk⟩ : ∃ k, a.1 * 2 ^ n % 18446744073709551616 = 2 ^ n * k := ⟨a.1 % 2 ^ (64 - n), by rw [← hPQ, Int.mul_comm a.1, Int.mul_emod_mul_of_pos _ _ hP]⟩
        have hk1 : k < 2 ^ (64 - n) := by
          have : 2 ^ n * k < 2 ^ n * 2 ^ (64 - n) := by rw [hPQ, ← hk]; exact Int.emod_lt_of_pos _ (by omega)
          exact Int.lt_of_mul_lt_mul_left this (Int.le_of_lt hP)
        have : 2 ^ n * (k + 1) ≤ 2 ^ n * 2 ^ (64 - n) := Int.mul_le_mul_of_nonneg_left (by omega) (Int.le_of_lt hP)
        rw [hPQ, Int.mul_add, Int.mul_one, ← hk] at this
        rw [hdiv]
        omega
      generalize a.1 * 2 ^ n = X at *
      generalize a.2 * 2 ^ n = Y at *
      omega
    · refine ⟨a.1 % 2 ^ (64 - n), ?_⟩
      rw [← hPQ, Int.mul_comm a.1, Int.mul_emod_mul_of_pos _ _ hP]
theorem wrightV_in {a : W2} (ha : InW a) (n : Int) : InW (wrightV a n) := by
  unfold wrightV
  repeat' split
  · exact ha
  · exact ⟨zero_in, zero_in⟩
  · exact ⟨zero_in, shr_inU ha.1 _⟩
  · refine ⟨shr_inU ha.1 _, ?_⟩
    dsimp only
    exact bits_inU _ _ _
theorem wrightV_v {a : W2} (ha : InW a) {n : Nat} : wv (wrightV a n) = wv a / 2 ^ n := by
  have hb := wv_in ha
  obtain ⟨⟨h1, h2⟩, h3, h4⟩ := ha
  unfold wrightV
  by_cases h0 : (n : Int) ≤ 0
  · rw [if_pos h0]
    have : n = 0 := by omega
    subst this
    rw [Int.pow_zero, Int.ediv_one]
  rw [if_neg h0]
  by_cases h128 : (128 : Int) ≤ n
  · rw [if_pos h128]
    have hp : (340282366920938463463374607431768211456 : Int) ≤ 2 ^ n := by
      have e : (340282366920938463463374607431768211456 : Int) = 2 ^ 128 := by decide
      rw [e]
      exact_mod_cast Nat.pow_le_pow_right (show 0 < 2 by decide) (show 128 ≤ n by omega)
    rw [Int.ediv_eq_zero_of_lt hb.1 (by omega)]
    rfl
  rw [if_neg h128]
  by_cases h64 : (64 : Int) ≤ n
  · rw [if_pos h64, wrap_i64 (by omega), shrK (by omega)]
    have e : ((n : Int) - 64).toNat = n - 64 := by omega
    have e2 : (2 : Int) ^ n = 18446744073709551616 * 2 ^ (n - 64) := by
      have : (18446744073709551616 : Int) = 2 ^ 64 := by decide
      rw [this, ← Int.pow_add]; congr 1; omega
    rw [e, e2, ← Int.ediv_ediv_of_nonneg (by omega)]
    have : wv a / 18446744073709551616 = a.1 := by unfold wv; omega
    rw [this, wv_z]
  · rw [if_neg h64, wrap_i64 (by omega), shlK (by omega), shrK (by omega), shrK (by omega)]
    have e : (n : Int).toNat = n := by omega
    have e1 : (64 - (n : Int)).toNat = 64 - n := by omega
    rw [e, e1]
    have hP := ppos n
    have hQ := ppos (64 - n)
    have hPQ := p64 (n := n) (by omega)
    have hdiv : a.1 * 2 ^ (64 - n) / 18446744073709551616 = a.1 / 2 ^ n := by
      rw [← hPQ, Int.mul_ediv_mul_of_pos_left _ _ hQ]
    have hlt : a.2 / 2 ^ n < 2 ^ (64 - n) := by
      rw [Int.ediv_lt_iff_lt_mul hP, Int.mul_comm, hPQ]; exact h4
    have hge : 0 ≤ a.2 / 2 ^ n := Int.ediv_nonneg h3 (Int.le_of_lt hP)
    have hle : a.2 / 2 ^ n ≤ a.2 := Int.ediv_le_self _ h3
    rw [or_add (n := 64 - n) ⟨Int.emod_nonneg _ (by omega), Int.emod_lt_of_pos _ (by omega)⟩ ⟨hge, by omega⟩ ?_ hlt]
    · have e3 : wv a / 2 ^ n = a.1 * 2 ^ (64 - n) + a.2 / 2 ^ n := by
        unfold wv
        rw [← hPQ, Int.mul_comm (2 ^ n), ← Int.mul_assoc, Int.add_comm, Int.add_mul_ediv_right _ _ (by omega), Int.add_comm]
      rw [e3]
      unfold wv
      dsimp only
      rw [← hdiv]
      generalize a.1 * 2 ^ (64 - n) = X
      omega
    · refine ⟨a.1 % 2 ^ n, ?_⟩
      rw [← hPQ, Int.mul_comm (2 ^ n), Int.mul_comm a.1, Int.mul_emod_mul_of_pos _ _ hQ]
theorem wv_inj {a b : W2} (ha : InW a) (hb : InW b) (h : wv a = wv b) : a.1 = b.1 ∧ a.2 = b.2 := by
  obtain ⟨⟨h1, h2⟩, h3, h4⟩ := ha
  obtain ⟨⟨g1, g2⟩, g3, g4⟩ := hb
  unfold wv at h; omega
theorem wright_v {a : W2} (ha : InW a) {n : Nat} : wv (wrightM a n).1 = wv a / 2 ^ n ∧ (wrightM a n).2 = decide (¬ wv a % 2 ^ n = 0) := by
  have hb := wv_in ha
  unfold wrightM
  by_cases h0 : (n : Int) ≤ 0
  · rw [if_pos h0]
    have : n = 0 := by omega
    subst this
    rw [Int.pow_zero, Int.ediv_one, Int.emod_one]
    exact ⟨rfl, rfl⟩
  rw [if_neg h0]
  refine ⟨wrightV_v ha, ?_⟩
  dsimp only
  by_cases h128 : (128 : Int) ≤ n
  · have hp : (340282366920938463463374607431768211456 : Int) ≤ 2 ^ n := by
      have e : (340282366920938463463374607431768211456 : Int) = 2 ^ 128 := by decide
      rw [e]
      exact_mod_cast Nat.pow_le_pow_right (show 0 < 2 by decide) (show 128 ≤ n by omega)
    rw [Int.emod_eq_of_lt hb.1 (by omega), wzero_v ha, decide_eq_true h128, Bool.true_and]
    by_cases hz : wv a = 0
    · have hz2 := wv_inj ha (b := (0, 0)) ⟨zero_in, zero_in⟩ (by rw [hz]; rfl)
      rw [hz, decide_eq_true rfl]
      have ho : wrightV a n = (0, 0) := by
        unfold wrightV; rw [if_neg h0, if_pos h128]
      rw [ho, hz2.1, hz2.2]
      have : wleftM (0, 0) n = (0, 0) := by
        unfold wleftM; rw [if_neg h0, if_pos h128]
      rw [this]; rfl
    · rw [decide_eq_false hz, decide_eq_true hz]; simp
  · rw [decide_eq_false h128, Bool.false_and, Bool.or_false]
    have hl := wleft_v (wrightV_in ha n) (n := n) (by omega)
    rw [wrightV_v ha] at hl
    have hP := ppos n
    have hd := Int.mul_ediv_add_emod (wv a) (2 ^ n)
    have hm := Int.emod_nonneg (wv a) (show (2 : Int) ^ n ≠ 0 by omega)
    have hn0 : 0 ≤ wv a / 2 ^ n := Int.ediv_nonneg hb.1 (Int.le_of_lt hP)
    rw [Int.mul_comm (wv a / 2 ^ n)] at hl
    have hz0 : 0 ≤ 2 ^ n * (wv a / 2 ^ n) := Int.mul_nonneg (Int.le_of_lt hP) hn0
    generalize 2 ^ n * (wv a / 2 ^ n) = Z at *
    rw [Int.emod_eq_of_lt hz0 (by omega)] at hl
    have hlin := wleft_in (wrightV_in ha n) n
    have : (decide ((wleftM (wrightV a n) n).1 = a.1) && decide ((wleftM (wrightV a n) n).2 = a.2)) = decide (wv a % 2 ^ n = 0) := by
      rw [← Bool.decide_and, decide_eq_decide]
      constructor
      · rintro ⟨e1, e2⟩
        have : wv (wleftM (wrightV a n) n) = wv a := by unfold wv; rw [e1, e2]
        omega
      · intro h
        exact wv_inj hlin ha (by omega)
    rw [this]
    by_cases hz : wv a % 2 ^ n = 0 <;> simp [hz]
end Go.Proofs.YtcikcinkjbbnhaaDoor.M
