/- Quotients and roots of wide numbers, by value. -/
import Derived.Test.YtcikcinkjbbnhaaDoorC48
import Derived.Test.YtcikcinkjbbnhaaDoorX1
set_option linter.unusedSimpArgs false
set_option linter.unusedVariables false
set_option maxRecDepth 10000
set_option maxHeartbeats 4000000
namespace Go.Proofs.YtcikcinkjbbnhaaDoor.M
open Go Go.Proofs

theorem wu_id {x : Int} (h : 0 ≤ x ∧ x < 18446744073709551616) : wu x = x := by unfold wu; rw [wrap_u64]; omega
theorem wu_mod (x : Int) : wu x = x % 18446744073709551616 := wrap_u64 x
/-- One place of the division: the test tells just whether the estimate is too great. -/
theorem div_test (Y y1 y0 u n1 q r : Nat) (hY : Y = y1 * 4294967296 + y0) (hr : u = q * y1 + r) (_hY0 : 0 < Y) :
    (r * 4294967296 + n1 < q * y0) ↔ (u * 4294967296 + n1) / Y < q := by
  rw [Nat.div_lt_iff_lt_mul _hY0]
  have e1 : q * Y = q * y1 * 4294967296 + q * y0 := by rw [hY, Nat.mul_add, Nat.mul_assoc]
  have e2 : u * 4294967296 = q * y1 * 4294967296 + r * 4294967296 := by rw [hr, Nat.add_mul]
  rw [e1, e2]
  generalize q * y1 = A
  generalize q * y0 = C
  omega
theorem div_Q_lt (Y u n1 : Nat) (hu : u < Y) (hn : n1 < 4294967296) : (u * 4294967296 + n1) / Y < 4294967296 := by
  rw [Nat.div_lt_iff_lt_mul (by omega)]
  have : (u + 1) * 4294967296 ≤ Y * 4294967296 := Nat.mul_le_mul_right _ hu
  rw [Nat.mul_comm 4294967296 Y]
  omega
theorem div_last (Y y1 y0 u n1 q r : Nat) (hY : Y = y1 * 4294967296 + y0) (hr : u = q * y1 + r) (hY0 : 0 < Y) (hq : q ≤ 4294967296) (hy0 : y0 < 4294967296) (hr2 : 4294967296 ≤ r) :
    q ≤ (u * 4294967296 + n1) / Y := by
  by_cases h : (u * 4294967296 + n1) / Y < q
  · have t := (div_test Y y1 y0 u n1 q r hY hr hY0).2 h
    have m : q * y0 ≤ 4294967296 * 4294967296 := Nat.mul_le_mul hq (by omega)
    generalize q * y0 = C at *
    omega
  · omega
theorem div_est2 (Y y1 y0 u n : Nat) (hY : Y = y1 * 4294967296 + y0) (hy1 : 2147483648 ≤ y1) (hy0 : y0 < 4294967296) (hu : u < Y) (hn : n < 4294967296) :
    u / y1 ≤ 4294967297 ∧ (u * 4294967296 + n) / Y ≤ u / y1 ∧ u / y1 ≤ (u * 4294967296 + n) / Y + 2 := by
  have hy : 0 < y1 := by omega
  have hY0 : 0 < Y := by omega
  refine ⟨?_, ?_, ?_⟩
  · have : u / y1 < 4294967298 := by
      rw [Nat.div_lt_iff_lt_mul hy]
      omega
    omega
  · rw [Nat.le_div_iff_mul_le hy]
    have d2 := Nat.div_mul_le_self (u * 4294967296 + n) Y
    have e : (u * 4294967296 + n) / Y * Y = (u * 4294967296 + n) / Y * y1 * 4294967296 + (u * 4294967296 + n) / Y * y0 := by
      conv => lhs; rw [hY]
      rw [Nat.mul_add, Nat.mul_assoc, ← hY]
    rw [e] at d2
    generalize (u * 4294967296 + n) / Y * y1 = A at *
    generalize (u * 4294967296 + n) / Y * y0 = C at *
    omega
  · have : u / y1 < (u * 4294967296 + n) / Y + 3 := by
      rw [Nat.div_lt_iff_lt_mul hy]
      have d3 := Nat.lt_mul_div_succ (u * 4294967296 + n) hY0
      have hQ := div_Q_lt Y u n hu hn
      have e : Y * ((u * 4294967296 + n) / Y + 1) = ((u * 4294967296 + n) / Y * y1 + y1) * 4294967296 + ((u * 4294967296 + n) / Y * y0 + y0) := by
        conv => lhs; rw [hY, Nat.mul_comm, Nat.add_mul, Nat.one_mul, Nat.mul_add, ← Nat.mul_assoc, ← hY]
        omega
      have e2 : ((u * 4294967296 + n) / Y + 3) * y1 = (u * 4294967296 + n) / Y * y1 + 3 * y1 := Nat.add_mul _ _ _
      have b : (u * 4294967296 + n) / Y * y0 ≤ (u * 4294967296 + n) / Y * 4294967295 := Nat.mul_le_mul_left _ (by omega)
      rw [e] at d3
      rw [e2]
      generalize (u * 4294967296 + n) / Y * y1 = A at *
      generalize (u * 4294967296 + n) / Y * y0 = C at *
      omega
    omega
theorem div_rem (Y u n : Nat) (hY : Y < 18446744073709551616) (hY0 : 0 < Y) :
    wu (wu (wu ((u : Int) * 4294967296) + (n : Int)) - wu ((((u * 4294967296 + n) / Y : Nat) : Int) * (Y : Int))) = (((u * 4294967296 + n) % Y : Nat) : Int) := by
  have dm := Nat.div_add_mod (u * 4294967296 + n) Y
  have lt := Nat.mod_lt (u * 4294967296 + n) hY0
  have e : (((u * 4294967296 + n) / Y : Nat) : Int) * (Y : Int) = ((Y * ((u * 4294967296 + n) / Y) : Nat) : Int) := by rw [Int.natCast_mul, Int.mul_comm]
  rw [e, wu_mod, wu_mod, wu_mod, wu_mod]
  generalize Y * ((u * 4294967296 + n) / Y) = C at *
  generalize (u * 4294967296 + n) % Y = R at *
  omega
theorem adj_val (Y y1 y0 u n : Nat) (hY : Y = y1 * 4294967296 + y0) (hy1 : 2147483648 ≤ y1) (hy1' : y1 < 4294967296) (hy0 : y0 < 4294967296) (hn : n < 4294967296) (hu : u < Y) :
    ∀ (f d q r : Nat), d ≤ f → q = (u * 4294967296 + n) / Y + d → u = q * y1 + r → q ≤ 4294967297 → r < 4294967296 → adjM y1 y0 n f ((q : Int), (r : Int)) = (((u * 4294967296 + n) / Y : Nat) : Int) := by
  have hY0 : 0 < Y := by omega
  have hQ := div_Q_lt Y u n hu hn
  have T := fun q r hr => div_test Y y1 y0 u n q r hY hr hY0
  have La := fun q r hr hq hr2 => div_last Y y1 y0 u n q r hY hr hY0 hq hy0 hr2
  generalize (u * 4294967296 + n) / Y = Q at *
  intro f
  induction f with
  | zero =>
    intro d q r hd hq hr hq2 hr2
    have : d = 0 := by omega
    subst this
    rw [hq]; rfl
  | succ f ih =>
    intro d q r hd hq hr hq2 hr2
    unfold adjM
    dsimp only
    have e : (q : Int) * (y0 : Int) = ((q * y0 : Nat) : Int) := (Int.natCast_mul _ _).symm
    rcases Nat.eq_zero_or_pos d with h0 | h0
    · subst h0
      rw [Nat.add_zero] at hq
      have nt : ¬ (r * 4294967296 + n < q * y0) := fun h => by
        have := (T q r hr).1 h; omega
      have m : q * y0 < 18446744073709551616 := by
        generalize q * y0 = C at *; omega
      rw [if_neg]
      · rw [hq]
      · rw [e, wu_mod, wu_mod, wu_mod]
        generalize q * y0 = C at *
        omega
    · have t : r * 4294967296 + n < q * y0 := (T q r hr).2 (by omega)
      have wq : wu ((q : Int) - 1) = ((q - 1 : Nat) : Int) := by rw [wu_id (by omega)]; omega
      have wr : wu ((r : Int) + (y1 : Int)) = ((r + y1 : Nat) : Int) := by rw [wu_id (by omega)]; omega
      have hr' : u = (q - 1) * y1 + (r + y1) := by
        obtain ⟨p, rfl⟩ : ∃ p, q = p + 1 := ⟨q - 1, by omega⟩
        rw [Nat.add_mul, Nat.one_mul] at hr
        rw [Nat.add_sub_cancel]; omega
      rw [if_pos, wq, wr]
      · by_cases c : (4294967296 : Int) ≤ ((r + y1 : Nat) : Int)
        · have l := La (q - 1) (r + y1) hr' (by omega) (by omega)
          rw [if_pos c]; omega
        · rw [if_neg c]
          exact ih (d - 1) (q - 1) (r + y1) (by omega) (by omega) hr' (by omega) (by omega)
      · by_cases c : (4294967296 : Int) ≤ (q : Int)
        · exact .inl c
        · right
          have m : q * y0 ≤ 4294967295 * 4294967295 := Nat.mul_le_mul (by omega) (by omega)
          rw [e, wu_mod, wu_mod, wu_mod]
          generalize q * y0 = C at *
          omega
theorem est_val (Y y1 y0 u n : Nat) (hY : Y = y1 * 4294967296 + y0) (hy1 : 2147483648 ≤ y1) (hy1' : y1 < 4294967296) (hy0 : y0 < 4294967296) (hn : n < 4294967296) (hu : u < Y) :
    adjM y1 y0 n 2 (est u y1) = (((u * 4294967296 + n) / Y : Nat) : Int) := by
  have dm := Nat.div_add_mod u y1
  have ltm := Nat.mod_lt u (show 0 < y1 by omega)
  obtain ⟨v1, v2, v3⟩ := div_est2 Y y1 y0 u n hY hy1 hy0 hu hn
  have hle := Nat.div_le_self u y1
  have hd : ((u : Int).tdiv (y1 : Int)) = ((u / y1 : Nat) : Int) := by rw [Int.tdiv_eq_ediv_of_nonneg (by omega), ← Int.natCast_ediv]
  have wd : wu ((u : Int).tdiv (y1 : Int)) = ((u / y1 : Nat) : Int) := by
    rw [hd]
    exact wu_id ⟨Int.natCast_nonneg _, by omega⟩
  have wm : wu ((u : Int) - wu (((u / y1 : Nat) : Int) * (y1 : Int))) = ((u % y1 : Nat) : Int) := by
    have e : ((u / y1 : Nat) : Int) * (y1 : Int) = ((y1 * (u / y1) : Nat) : Int) := by rw [Int.natCast_mul, Int.mul_comm]
    rw [e, wu_mod, wu_mod]
    generalize y1 * (u / y1) = C at *
    omega
  have he : est (u : Int) (y1 : Int) = (((u / y1 : Nat) : Int), ((u % y1 : Nat) : Int)) := by
    unfold est
    rw [wd, wm]
  rw [he]
  exact adj_val Y y1 y0 u n hY hy1 hy1' hy0 hn hu 2 (u / y1 - (u * 4294967296 + n) / Y) (u / y1) (u % y1) (by omega) (by omega) (by rw [Nat.mul_comm]; omega) v1 (by omega)

theorem and_32' {x : Int} (h : 0 ≤ x) (h' : x < 18446744073709551616) : bits .and .u64 x 4294967295 = x % 4294967296 := by go_bits2
theorem shr32 (x : Int) : shrV .u64 x 32 = x / 4294967296 := by
  rw [shrK (by decide)]
  have e : (2 : Int) ^ (32 : Int).toNat = 4294967296 := by decide
  rw [e]
/-- math/bits.Div64 is the quotient and what is left. -/
theorem div64_val {h l y : Nat} (hh : h < y) (hl : l < 18446744073709551616) (hy : y < 18446744073709551616) :
    div64M (h : Int) (l : Int) (y : Int) = ((((h * 18446744073709551616 + l) / y : Nat) : Int), (((h * 18446744073709551616 + l) % y : Nat) : Int)) := by
  have hy0 : 0 < y := by omega
  unfold div64M
  by_cases h0 : h = 0
  · subst h0
    have := Nat.div_le_self l y
    rw [if_pos (by rfl), Int.tdiv_eq_ediv_of_nonneg (by omega), Int.tmod_eq_emod_of_nonneg (by omega), ← Int.natCast_ediv, ← Int.natCast_emod, wu_id (x := ((l / y : Nat) : Int)) ⟨Int.natCast_nonneg _, by omega⟩, Nat.zero_mul, Nat.zero_add]
  rw [if_neg (by omega)]
  have hyU : InU (y : Int) := ⟨by omega, by omega⟩
  obtain ⟨L, hL1, hL2, hLn⟩ := lenM_ln hyU
  have hLup : y < 2 ^ L := by have := hLn.1; exact_mod_cast this
  have hLlo : 2 ^ L ≤ 2 * y := by have := hLn.2 (by omega); exact_mod_cast this
  obtain ⟨s, hs, hs'⟩ : ∃ s, s = 64 - L ∧ s ≤ 63 := ⟨64 - L, rfl, by
    rcases Nat.eq_zero_or_pos L with h1 | h1
    · subst h1; simp at hLup; omega
    · omega⟩
  have hsh : shN (y : Int) = (s : Int) := by
    unfold shN
    rw [hL1, wrap_i64 (by omega), wrap_u64]; omega
  have hp := Nat.two_pow_pos s
  have hPQ : 2 ^ s * 2 ^ (64 - s) = 18446744073709551616 := by
    rw [← Nat.pow_add, show s + (64 - s) = 64 by omega]
  -- the divisor, as high as can be
  have yhi : y * 2 ^ s < 18446744073709551616 := by
    have t : y * 2 ^ s < 2 ^ L * 2 ^ s := Nat.mul_lt_mul_of_pos_right hLup hp
    rw [← Nat.pow_add, show L + s = 64 by omega] at t
    exact t
  have ylo : 9223372036854775808 ≤ y * 2 ^ s := by
    have t : 2 ^ L * 2 ^ s ≤ 2 * y * 2 ^ s := Nat.mul_le_mul_right _ hLlo
    rw [← Nat.pow_add, show L + s = 64 by omega, Nat.mul_assoc] at t
    have e64 : (2 : Nat) ^ 64 = 18446744073709551616 := by decide
    omega
  have c2 : ∀ k : Nat, (2 : Int) ^ ((k : Nat) : Int).toNat = ((2 ^ k : Nat) : Int) := fun k => by rw [Int.toNat_natCast]; push_cast; rfl
  have hdY : dY (y : Int) = ((y * 2 ^ s : Nat) : Int) := by
    unfold dY
    rw [hsh, shlK (by omega), c2, ← Int.natCast_mul]
    omega
  obtain ⟨Y, hYe⟩ : ∃ Y, y * 2 ^ s = Y := ⟨_, rfl⟩
  rw [hYe] at hdY yhi ylo
  have hdY0 : dY0 (y : Int) = ((Y % 4294967296 : Nat) : Int) := by
    unfold dY0
    rw [hdY, and_32' (by omega) (by omega)]; omega
  have hyn : ynM (y : Int) = ((Y / 4294967296 : Nat) : Int) := by
    have e : ynM (y : Int) = shrV .u64 (dY (y : Int)) 32 := rfl
    rw [e, hdY, shr32]; omega
  have ws2 : wu (64 - (s : Int)) = ((64 - s : Nat) : Int) := by rw [wu_id (by omega)]; omega
  have hlt : h * 2 ^ s + 2 ^ s ≤ Y := by
    have : (h + 1) * 2 ^ s ≤ y * 2 ^ s := Nat.mul_le_mul_right _ hh
    rw [Nat.add_mul, Nat.one_mul, hYe] at this; exact this
  have hlq : l / 2 ^ (64 - s) < 2 ^ s := by
    rw [Nat.div_lt_iff_lt_mul (Nat.two_pow_pos _), hPQ]; exact hl
  have hdu : du (h : Int) (l : Int) (y : Int) = ((h * 2 ^ s + l / 2 ^ (64 - s) : Nat) : Int) := by
    unfold du
    rw [hsh, ws2, shlK (by omega), shrK (by omega), c2, c2, ← Int.natCast_mul, ← Int.natCast_ediv]
    have e1 : ((h * 2 ^ s : Nat) : Int) % 18446744073709551616 = ((h * 2 ^ s : Nat) : Int) := by omega
    rw [e1]
    have hq0 : 0 ≤ ((l / 2 ^ (64 - s) : Nat) : Int) ∧ ((l / 2 ^ (64 - s) : Nat) : Int) < ((2 ^ s : Nat) : Int) := ⟨Int.natCast_nonneg _, by exact_mod_cast hlq⟩
    rw [or_add (n := s) ⟨by omega, by omega⟩ ⟨hq0.1, by omega⟩ ⟨(h : Int), by rw [Int.natCast_mul, Int.mul_comm]; push_cast; rfl⟩ (by exact_mod_cast hlq)]
    push_cast; rfl
  obtain ⟨w, hw⟩ : ∃ w, l * 2 ^ s % 18446744073709551616 = w := ⟨_, rfl⟩
  have wlt : w < 18446744073709551616 := by rw [← hw]; exact Nat.mod_lt _ (by decide)
  have hshl : shlV .u64 (l : Int) (s : Int) = (w : Int) := by
    rw [shlK (by omega), c2, ← Int.natCast_mul, ← hw]; omega
  have hn1 : dn1 (l : Int) (y : Int) = ((w / 4294967296 : Nat) : Int) := by
    unfold dn1
    rw [hsh, hshl, shr32]; omega
  have hn0 : dn0 (l : Int) (y : Int) = ((w % 4294967296 : Nat) : Int) := by
    unfold dn0
    rw [hsh, hshl, and_32' (by omega) (by omega)]; omega
  obtain ⟨u, hu⟩ : ∃ u, h * 2 ^ s + l / 2 ^ (64 - s) = u := ⟨_, rfl⟩
  rw [hu] at hdu
  have ult : u < Y := by omega
  have hnum : (h * 18446744073709551616 + l) * 2 ^ s = u * 18446744073709551616 + w := by
    have e1 : l * 2 ^ s = l / 2 ^ (64 - s) * 18446744073709551616 + w := by
      have dmx := Nat.div_add_mod (l * 2 ^ s) 18446744073709551616
      have : l * 2 ^ s / 18446744073709551616 = l / 2 ^ (64 - s) := by
        rw [← hPQ, Nat.mul_comm l, Nat.mul_div_mul_left _ _ hp]
      rw [this, hw] at dmx
      omega
    rw [Nat.add_mul, e1, ← hu, Nat.add_mul]
    have : h * 18446744073709551616 * 2 ^ s = h * 2 ^ s * 18446744073709551616 := by rw [Nat.mul_assoc, Nat.mul_comm 18446744073709551616, ← Nat.mul_assoc]
    omega
  have hYs : Y = Y / 4294967296 * 4294967296 + Y % 4294967296 := by omega
  have y1b : 2147483648 ≤ Y / 4294967296 ∧ Y / 4294967296 < 4294967296 := by omega
  have y0b : Y % 4294967296 < 4294967296 := Nat.mod_lt _ (by decide)
  have hq1 : dq1 (h : Int) (l : Int) (y : Int) = (((u * 4294967296 + w / 4294967296) / Y : Nat) : Int) := by
    unfold dq1
    rw [hyn, hdY0, hn1, hdu]
    exact est_val Y _ _ u _ hYs y1b.1 y1b.2 y0b (by omega) ult
  have hd2 : du2 (h : Int) (l : Int) (y : Int) (dq1 (h : Int) (l : Int) (y : Int)) = (((u * 4294967296 + w / 4294967296) % Y : Nat) : Int) := by
    unfold du2
    rw [hq1, hdu, hn1, hdY]
    exact div_rem Y u _ yhi (by omega)
  obtain ⟨u2, hu2⟩ : ∃ u2, (u * 4294967296 + w / 4294967296) % Y = u2 := ⟨_, rfl⟩
  rw [hu2] at hd2
  have u2lt : u2 < Y := by rw [← hu2]; exact Nat.mod_lt _ (by omega)
  have hq0 : dq0 (h : Int) (l : Int) (y : Int) (dq1 (h : Int) (l : Int) (y : Int)) = (((u2 * 4294967296 + w % 4294967296) / Y : Nat) : Int) := by
    unfold dq0
    rw [hd2, hyn, hdY0, hn0]
    exact est_val Y _ _ u2 _ hYs y1b.1 y1b.2 y0b (by omega) u2lt
  have hrem := div_rem Y u2 (w % 4294967296) yhi (by omega)
  have hQ1 := div_Q_lt Y u (w / 4294967296) ult (by omega)
  have hQ0 := div_Q_lt Y u2 (w % 4294967296) u2lt (by omega)
  have dm1 := Nat.div_add_mod (u * 4294967296 + w / 4294967296) Y
  have dm2 := Nat.div_add_mod (u2 * 4294967296 + w % 4294967296) Y
  have lt2 := Nat.mod_lt (u2 * 4294967296 + w % 4294967296) (show 0 < Y by omega)
  rw [hq0, hd2, hq1, hn0, hdY]
  rw [hu2] at dm1
  -- both places at once
  have hwhole : u * 18446744073709551616 + w = Y * ((u * 4294967296 + w / 4294967296) / Y * 4294967296 + (u2 * 4294967296 + w % 4294967296) / Y) + (u2 * 4294967296 + w % 4294967296) % Y := by
    rw [Nat.mul_add, ← Nat.mul_assoc]
    omega
  obtain ⟨Q0, hQ0e⟩ : ∃ q, (u2 * 4294967296 + w % 4294967296) / Y = q := ⟨_, rfl⟩
  obtain ⟨Q1, hQ1e⟩ : ∃ q, (u * 4294967296 + w / 4294967296) / Y = q := ⟨_, rfl⟩
  obtain ⟨R, hRe⟩ : ∃ q, (u2 * 4294967296 + w % 4294967296) % Y = q := ⟨_, rfl⟩
  rw [hQ0e, hQ1e, hRe] at hwhole
  rw [hQ0e] at hQ0 hrem
  rw [hQ1e] at hQ1
  rw [hRe] at lt2 hrem
  rw [hQ0e, hQ1e]
  clear dm1 dm2 hq1 hd2 hq0
  have hdivmod : (h * 18446744073709551616 + l) / y = Q1 * 4294967296 + Q0 ∧ (h * 18446744073709551616 + l) % y = R / 2 ^ s := by
    have e1 : (h * 18446744073709551616 + l) * 2 ^ s / (y * 2 ^ s) = Q1 * 4294967296 + Q0 := by
      rw [hYe, hnum, hwhole, Nat.mul_add_div (by omega), Nat.div_eq_of_lt lt2, Nat.add_zero]
    have e2 : (h * 18446744073709551616 + l) * 2 ^ s % (y * 2 ^ s) = R := by
      rw [hYe, hnum, hwhole, Nat.mul_add_mod, Nat.mod_eq_of_lt lt2]
    rw [Nat.mul_div_mul_right _ _ hp] at e1
    rw [Nat.mul_mod_mul_right] at e2
    exact ⟨e1, by rw [← e2, Nat.mul_div_cancel _ hp]⟩
  rw [hdivmod.1, hdivmod.2, hrem, hsh, shrK (by omega), c2, ← Int.natCast_ediv]
  congr 1
  rw [wu_mod, wu_mod]
  omega

/-! ### Roots -/
theorem sqNext_val {k : Nat} (hk : k < 64) {x : Nat} (hx : x % 2 ^ (64 - k) = 0) (hb : x + 2 ^ (64 - k) ≤ 18446744073709551616) : sqNext k (x : Int) = ((x + 2 ^ (63 - k) : Nat) : Int) := by
  have hp := Nat.two_pow_pos (63 - k)
  have e2 : 2 ^ (64 - k) = 2 * 2 ^ (63 - k) := by rw [show 64 - k = (63 - k) + 1 by omega, Nat.pow_succ, Nat.mul_comm]
  have hle : 2 ^ (63 - k) ≤ 2 ^ 63 := Nat.pow_le_pow_right (by decide) (by omega)
  have e63 : (2 : Nat) ^ 63 = 9223372036854775808 := by decide
  unfold sqNext
  have hs : shlV .u64 1 (63 - (k : Int)) = ((2 ^ (63 - k) : Nat) : Int) := by
    rw [shlK (by omega), show ((63 : Int) - k).toNat = 63 - k by omega, Int.one_mul]
    have : ((2 : Int) ^ (63 - k)) = ((2 ^ (63 - k) : Nat) : Int) := by push_cast; rfl
    rw [this]; omega
  rw [hs, or_add (n := 64 - k) ⟨by omega, by omega⟩ ⟨by omega, by omega⟩ ?_ ?_]
  · push_cast; rfl
  · have hd := Nat.div_add_mod x (2 ^ (64 - k))
    rw [hx, Nat.add_zero] at hd
    refine ⟨((x / 2 ^ (64 - k) : Nat) : Int), ?_⟩
    have h2 : ((2 : Int) ^ (64 - k)) = ((2 ^ (64 - k) : Nat) : Int) := by push_cast; rfl
    rw [h2, ← Int.natCast_mul, hd]
  · have h2 : ((2 : Int) ^ (64 - k)) = ((2 ^ (64 - k) : Nat) : Int) := by push_cast; rfl
    rw [h2]; omega
theorem wcmp_v {a b : W2} (ha : InW a) (hb : InW b) : wcmpM a b ≤ 0 ↔ wv a ≤ wv b := by
  obtain ⟨⟨h1, h2⟩, h3, h4⟩ := ha
  obtain ⟨⟨g1, g2⟩, g3, g4⟩ := hb
  unfold wcmpM wv
  split
  · constructor
    · intro _; omega
    · intro _; decide
  · split
    · constructor
      · intro _; omega
      · intro _; decide
    · constructor
      · intro h; exact absurd h (by decide)
      · intro h; omega
theorem sqI_val {w : W2} (hw : InW w) : ∀ k : Nat, k ≤ 64 → ∃ x : Nat, sqI w k = (x : Int) ∧ x % 2 ^ (64 - k) = 0 ∧ x + 2 ^ (64 - k) ≤ 18446744073709551616 ∧ (x : Int) * x ≤ wv w ∧ wv w < ((x : Int) + 2 ^ (64 - k)) * ((x : Int) + 2 ^ (64 - k))
  | 0, _ => by
    have hb := wv_in hw
    refine ⟨0, rfl, by simp, by decide, by simpa using hb.1, ?_⟩
    have e : ((0 : Nat) : Int) + 2 ^ (64 - 0) = 18446744073709551616 := by decide
    rw [e]; omega
  | k + 1, hk => by
    obtain ⟨x, h1, h2, h3, h4, h5⟩ := sqI_val hw k (by omega)
    have hp := Nat.two_pow_pos (63 - k)
    have e2 : 2 ^ (64 - k) = 2 * 2 ^ (63 - k) := by rw [show 64 - k = (63 - k) + 1 by omega, Nat.pow_succ, Nat.mul_comm]
    have e3 : 64 - (k + 1) = 63 - k := by omega
    have hn := sqNext_val (by omega) h2 h3
    have hst : sqI w (k + 1) = sqStep w k (sqI w k) := rfl
    have hnU : InU ((x + 2 ^ (63 - k) : Nat) : Int) := ⟨by omega, by omega⟩
    have hmul := mul64_v hnU hnU
    have hcmp := wcmp_v (mul64_in ((x + 2 ^ (63 - k) : Nat) : Int) ((x + 2 ^ (63 - k) : Nat) : Int)) hw
    rw [hmul] at hcmp
    rw [hst, h1, e3]
    unfold sqStep
    rw [hn]
    have hm0 : x % 2 ^ (63 - k) = 0 := by
      have := Nat.mod_mod_of_dvd x (show 2 ^ (63 - k) ∣ 2 ^ (64 - k) from Nat.pow_dvd_pow 2 (by omega))
      rw [← this, h2, Nat.zero_mod]
    have c : ((2 : Int) ^ (63 - k)) = ((2 ^ (63 - k) : Nat) : Int) := by push_cast; rfl
    have c2 : ((2 : Int) ^ (64 - k)) = ((2 ^ (64 - k) : Nat) : Int) := by push_cast; rfl
    rw [c2] at h5
    by_cases hc : wcmpM (mul64M ((x + 2 ^ (63 - k) : Nat) : Int) ((x + 2 ^ (63 - k) : Nat) : Int)) w ≤ 0
    · rw [if_pos hc]
      refine ⟨x + 2 ^ (63 - k), rfl, by rw [Nat.add_mod_right, hm0], by omega, hcmp.1 hc, ?_⟩
      have : ((x + 2 ^ (63 - k) : Nat) : Int) + 2 ^ (63 - k) = (x : Int) + ((2 ^ (64 - k) : Nat) : Int) := by rw [c]; omega
      rw [this]; exact h5
    · rw [if_neg hc]
      refine ⟨x, rfl, hm0, by omega, h4, ?_⟩
      have h6 : ¬ (((x + 2 ^ (63 - k) : Nat) : Int) * ((x + 2 ^ (63 - k) : Nat) : Int) ≤ wv w) := fun h => hc (hcmp.2 h)
      have : ((x + 2 ^ (63 - k) : Nat) : Int) = (x : Int) + 2 ^ (63 - k) := by rw [c]; omega
      rw [this] at h6
      omega
/-- The root of a wide number, rounded down. -/
theorem wsqrt_val {w : W2} (hw : InW w) : ∃ x : Int, InU x ∧ (wsqrtM w).1 = x ∧ x * x ≤ wv w ∧ wv w < (x + 1) * (x + 1) ∧ ((wsqrtM w).2 = true ↔ x * x = wv w) := by
  obtain ⟨x, h1, _, h3, h4, h5⟩ := sqI_val hw 64 (by decide)
  have hU : InU (x : Int) := ⟨by omega, by simp at h3; omega⟩
  have hmul := mul64_v hU hU
  refine ⟨x, hU, h1, h4, by simpa using h5, ?_⟩
  unfold wsqrtM
  rw [h1]
  simp only [Bool.and_eq_true, decide_eq_true_eq]
  constructor
  · rintro ⟨a, b⟩
    have : mul64M (x : Int) (x : Int) = w := Prod.ext a b
    rw [← hmul, this]
  · intro h
    exact wv_inj (mul64_in _ _) hw (by rw [hmul, h])
end Go.Proofs.YtcikcinkjbbnhaaDoor.M
