/- What soft's and more's operations answer, as fractions. -/
import Derived.Test.YtcikcinkjbbnhaaDoorX3
import Derived.Test.YtcikcinkjbbnhaaDoorY3
set_option linter.unusedSimpArgs false
set_option linter.unusedVariables false
set_option maxRecDepth 10000
set_option maxHeartbeats 400000
namespace Go.Proofs.YtcikcinkjbbnhaaDoor.M
open Go Go.Proofs

theorem fin_kk {b : Int} (h : finiteM b = true) : ¬ kindM b = 5 ∧ ¬ kindM b = 4 := by
  rcases kind_fin h with h1 | ⟨h1, _⟩ | ⟨h1, _⟩ <;> rw [h1] <;> decide
theorem nan_ff {a b : Int} (ha : finiteM a = true) (hb : finiteM b = true) : (nanM a b).2 = false := by
  have h1 := (fin_kk ha).1
  have h2 := (fin_kk hb).1
  simp [nanM, nan1, h1, h2]
theorem part_e {b : Int} (h : InU b) (hf : finiteM b = true) : -1074 ≤ (partsM b).2 ∧ (partsM b).2 ≤ 971 := by
  have h1 : expM b < 2047 := by simpa [finiteM] using hf
  have h0 : 0 ≤ expM b := by rw [expM_eq h]; omega
  rw [parts_eq h hf]
  split
  · decide
  · split
    · dsimp only; omega
    · dsimp only; omega
theorem mg_lt {b : Int} (h : InU b) (hf : finiteM b = true) : mg b < pw 1024 := by
  have h1 := parts53 h
  have h2 := part_e h hf
  have h3 : ((partsM b).1 : Rat) < (9007199254740992 : Rat) := ilt h1.2
  have h4 := mulrl h3 (pw_pos (partsM b).2)
  have h5 := pw53 (partsM b).2
  have h6 : pw ((partsM b).2 + 53) ≤ pw 1024 := pw_le (by omega)
  unfold mg; grind
theorem mg_zero {b : Int} (h : InU b) (hf : finiteM b = true) : mg b = 0 ↔ kindM b = 1 := by
  rw [kind_zero h, absM_eq h]
  unfold mg
  rw [parts_eq h hf]
  constructor
  · intro hz
    by_cases h0 : b % 9223372036854775808 = 0
    · exact h0
    · rw [if_neg h0] at hz
      exfalso
      have hb := h.1
      have hb2 := h.2
      have he := expM_eq h
      split at hz
      · dsimp only at hz
        rcases Rat.mul_eq_zero.1 hz with h1 | h1
        · have : b % 4503599627370496 = 0 := izero h1
          omega
        · exact pw_ne _ h1
      · dsimp only at hz
        rcases Rat.mul_eq_zero.1 hz with h1 | h1
        · have : b % 4503599627370496 + 4503599627370496 = 0 := izero h1
          omega
        · exact pw_ne _ h1
  · intro hz
    rw [if_pos hz]
    simp
theorem mg_pos {b : Int} (h : InU b) (hf : finiteM b = true) (hk : ¬ kindM b = 1) : 0 < mg b := by
  have h1 := mg_nn h
  have h2 : mg b ≠ 0 := fun e => hk ((mg_zero h hf).1 e)
  grind
theorem val_zero {b : Int} (h : InU b) (hf : finiteM b = true) : val b = 0 ↔ kindM b = 1 := by
  rw [← mg_zero h hf]
  unfold val
  constructor
  · intro e
    have := ab_val h
    unfold val at this
    rw [e, ab_zero] at this
    exact this.symm
  · intro e; rw [e]; grind
/-- A number that is handed on as it is. -/
theorem RdOf.self {b : Int} (h : InU b) (hf : finiteM b = true) : RdOf (negM b) (mg b) (b, 0) (mg b) := by
  have h1 := mg_lt h hf
  exact ⟨Rnd.of_rep (rep_mg h hf) (mg_nn h), h, fun _ => ⟨hf, rfl, rfl⟩, fun h2 => by grind, .inl rfl, fun _ => rfl, fun h => by simp at h, ⟨fun h => by simp at h, fun h2 => by grind⟩⟩

/-- A product. -/
theorem mul_val {a b : Int} (ha : InU a) (hb : InU b) (fa : finiteM a = true) (fb : finiteM b = true) : ∃ ρ, RdOf (!(negM a == negM b)) (mg a * mg b) (mulM a b) ρ := by
  have ka := fin_kk fa
  have kb := fin_kk fb
  have pa := parts53 ha
  have pb := parts53 hb
  have ea := part_e ha fa
  have eb := part_e hb fb
  have hv := mul64_v (x := (partsM a).1) (y := (partsM b).1) ⟨pa.1, by omega⟩ ⟨pb.1, by omega⟩
  have hr : mulM a b = roundM (!(negM a == negM b)) (mul64M (partsM a).1 (partsM b).1) ((partsM a).2 + (partsM b).2) false := by
    unfold mulM
    rw [nan_ff fa fb, if_neg (by decide)]
    dsimp only
    rw [if_neg (fun h => h.elim (fun h => ka.2 h.1) (fun h => kb.2 h.2)), if_neg (fun h => h.elim ka.2 kb.2), wrap_i64 (by omega)]
  rw [hr]
  refine round_val _ (mul64_in _ _) (by omega) (th := 0) (by constructor <;> grind) (by simp) (by simp) ?_
  rw [hv, pw_add]
  unfold mg
  push_cast
  grind

theorem qth1 {q th P : Rat} (h : q + 1 ≤ P) (h2 : th < 1) : q + th ≤ P := by grind
theorem qth0 {q P : Rat} (h : q ≤ P) : q + 0 ≤ P := by grind
theorem qsum {P q th E X Y : Rat} (h1 : X = P * E) (h2 : Y = (q + th) * E) : X + Y = (P + q + th) * E := by grind
theorem qdif0 {P q E X Y : Rat} (h1 : X = P * E) (h2 : Y = (q + 0) * E) : X - Y = (P - q + 0) * E := by grind
theorem qdif1 {P q th E X Y : Rat} (h1 : X = P * E) (h2 : Y = (q + th) * E) : X - Y = (P - (q + 1) + (1 - th)) * E := by grind
/-- The sum of two numbers that aren't nothing, of which the second isn't the greater one. -/
theorem add2_val {a b : Int} (ha : InU a) (hb : InU b) (fa : finiteM a = true) (fb : finiteM b = true) (za : ¬ kindM a = 1) (zb : ¬ kindM b = 1) (hab : absM b ≤ absM a) :
    ∃ ρ, (negM a = negM b → RdOf (negM a) (mg a + mg b) (add2 a b) ρ) ∧ (negM a ≠ negM b → mg b ≤ mg a ∧ ∃ s, (mg b < mg a → s = negM a) ∧ RdOf s (mg a - mg b) (add2 a b) ρ) := by
  have pa := parts53 ha
  have pb := parts53 hb
  have ea := part_e ha fa
  have eb := part_e hb fb
  have hza : ¬ a % 9223372036854775808 = 0 := fun e => za ((kind_zero ha).2 (by rw [absM_eq ha]; exact e))
  have hzb : ¬ b % 9223372036854775808 = 0 := fun e => zb ((kind_zero hb).2 (by rw [absM_eq hb]; exact e))
  rw [absM_eq ha, absM_eq hb] at hab
  have qa := parts_eq ha fa
  have qb := parts_eq hb fb
  rw [if_neg hza, expM_eq ha] at qa
  rw [if_neg hzb, expM_eq hb] at qb
  have ha1 := ha.1
  have ha2 := ha.2
  have hb1 := hb.1
  have hb2 := hb.2
  -- the exponents, and which one is greater
  have hord : (partsM b).2 ≤ (partsM a).2 ∧ ((partsM b).2 < (partsM a).2 → 4503599627370496 ≤ (partsM a).1) ∧ ((partsM b).2 = (partsM a).2 → (partsM b).1 ≤ (partsM a).1) ∧ 1 ≤ (partsM a).1 ∧ 1 ≤ (partsM b).1 := by
    rw [qa, qb]
    split <;> split <;> dsimp only <;> omega
  obtain ⟨o1, o2, o3, o4, o5⟩ := hord
  clear qa qb hza hzb
  obtain ⟨n, hn⟩ := Int.eq_ofNat_of_zero_le (show 0 ≤ (partsM a).2 - (partsM b).2 by omega)
  have wa : InW (0, (partsM a).1) := ⟨zero_in, parts_in ha⟩
  have wb : InW (0, (partsM b).1) := ⟨zero_in, parts_in hb⟩
  have e64 : (2 : Int) ^ 64 = 18446744073709551616 := by decide
  have hp : wv (wleftM (0, (partsM a).1) 64) = wv (0, (partsM a).1) * 2 ^ 64 % 340282366920938463463374607431768211456 := wleft_v wa (n := 64) (by decide)
  have hq : wv (wleftM (0, (partsM b).1) 64) = wv (0, (partsM b).1) * 2 ^ 64 % 340282366920938463463374607431768211456 := wleft_v wb (n := 64) (by decide)
  rw [wv_z, e64, Int.emod_eq_of_lt (by omega) (by omega)] at hp hq
  have hpi := wleft_in wa 64
  have hqi := wleft_in wb 64
  have hr := wright_v hqi (n := n)
  have hri := wright_in hqi (n : Int)
  have hPpos := ppos n
  have hde := Int.mul_ediv_add_emod (wv (wleftM (0, (partsM b).1) 64)) (2 ^ n)
  have hm0 := Int.emod_nonneg (wv (wleftM (0, (partsM b).1) 64)) (show (2 : Int) ^ n ≠ 0 by omega)
  have hm1 := Int.emod_lt_of_pos (wv (wleftM (0, (partsM b).1) 64)) hPpos
  have hd0 : 0 ≤ wv (wleftM (0, (partsM b).1) 64) / 2 ^ n := Int.ediv_nonneg (by rw [hq]; omega) (by omega)
  have hdle : wv (wleftM (0, (partsM b).1) 64) / 2 ^ n ≤ wv (wleftM (0, (partsM b).1) 64) := Int.ediv_le_self _ (by rw [hq]; omega)
  obtain ⟨q, hqe⟩ : ∃ q, wv (wleftM (0, (partsM b).1) 64) / 2 ^ n = q := ⟨_, rfl⟩
  obtain ⟨t, hte⟩ : ∃ t, wv (wleftM (0, (partsM b).1) 64) % 2 ^ n = t := ⟨_, rfl⟩
  rw [hqe] at hde hd0 hdle hr
  rw [hte] at hde hm0 hm1 hr
  rw [hq] at hde hdle
  -- what falls out, in units of the last place
  obtain ⟨th, hth⟩ : ∃ th : Rat, th = (t : Rat) / (((2 : Int) ^ n : Int) : Rat) := ⟨_, rfl⟩
  have hPr : (0 : Rat) < (((2 : Int) ^ n : Int) : Rat) := ilt hPpos
  have hthm : th * (((2 : Int) ^ n : Int) : Rat) = (t : Rat) := by rw [hth, Rat.div_mul_cancel (by grind)]
  have th0 : 0 ≤ th := by
    refine mulc (c := (((2 : Int) ^ n : Int) : Rat)) ?_ hPr
    rw [hthm]
    have : (0 : Rat) ≤ (t : Rat) := ile hm0
    grind
  have th1 : th < 1 := by
    refine mulcl (c := (((2 : Int) ^ n : Int) : Rat)) ?_ hPr
    rw [hthm]
    have : (t : Rat) < (((2 : Int) ^ n : Int) : Rat) := ilt hm1
    grind
  have thz : th = 0 ↔ t = 0 := by
    constructor
    · intro e
      rw [e] at hthm
      have : (t : Rat) = ((0 : Int) : Rat) := by rw [← hthm]; simp
      exact_mod_cast this
    · intro e
      rw [e] at hthm
      have h0 : th * (((2 : Int) ^ n : Int) : Rat) = 0 := by rw [hthm]; rfl
      rcases Rat.mul_eq_zero.1 h0 with h1 | h1
      · exact h1
      · exfalso; grind
  -- in units of the greater one's last place, 64 bits further
  obtain ⟨E, hE⟩ : ∃ E, (partsM a).2 - 64 = E := ⟨_, rfl⟩
  have hX1 : mg a = ((partsM a).1 * 18446744073709551616 : Int) * pw E := by
    have : pw (partsM a).2 = (18446744073709551616 : Rat) * pw E := by
      rw [show (partsM a).2 = E + 64 by omega, Int.add_comm, pw_add, pw_lit (k := 18446744073709551616) (by decide) (by decide)]; push_cast; rfl
    unfold mg
    rw [this]; push_cast; grind
  obtain ⟨P, hPe⟩ : ∃ P, (partsM a).1 * 18446744073709551616 = P := ⟨_, rfl⟩
  rw [hPe] at hX1 hp
  have hX2 : mg b = ((q : Rat) + th) * pw E := by
    have h1 : pw (partsM a).2 = (((2 : Int) ^ n : Int) : Rat) * pw (partsM b).2 := by
      rw [← pw_nat, ← pw_add]; congr 1; omega
    have h2 : pw (partsM a).2 = (18446744073709551616 : Rat) * pw E := by
      rw [show (partsM a).2 = E + 64 by omega, Int.add_comm, pw_add, pw_lit (k := 18446744073709551616) (by decide) (by decide)]; push_cast; rfl
    have h3 : (((partsM b).1 * 18446744073709551616 : Int) : Rat) = (((2 : Int) ^ n : Int) : Rat) * ((q : Rat) + th) := by
      rw [← hde]; push_cast
      have : ((2 : Rat) ^ n) * th = (t : Rat) := by
        have e : (((2 : Int) ^ n : Int) : Rat) = (2 : Rat) ^ n := by push_cast; rfl
        rw [← e, Rat.mul_comm]; exact hthm
      grind
    have h4 : (((partsM b).1 * 18446744073709551616 : Int) : Rat) = ((partsM b).1 : Rat) * 18446744073709551616 := by push_cast; rfl
    unfold mg
    rw [h4] at h3
    have h5 : (((2 : Int) ^ n : Int) : Rat) * (((partsM b).1 : Rat) * pw (partsM b).2) = (((2 : Int) ^ n : Int) : Rat) * (((q : Rat) + th) * pw E) := by grind
    have h6 : ∀ x y c : Rat, 0 < c → c * x = c * y → x = y := fun x y c hc e => by
      have a1 := mulc (a := x) (b := y) (c := c) (by grind) hc
      have a2 := mulc (a := y) (b := x) (c := c) (by grind) hc
      grind
    exact h6 _ _ _ hPr h5
  have hbig : t ≠ 0 → 65 ≤ n ∧ 4503599627370496 ≤ (partsM a).1 := fun ht => by
    have h1 : 65 ≤ n := by
      rcases Nat.lt_or_ge n 65 with h | h
      · exfalso
        have h2 : (18446744073709551616 : Int) = 2 ^ n * 2 ^ (64 - n) := (p64 (by omega)).symm
        have h3 : t = 0 := by
          rw [← hte, hq, h2, Int.mul_comm, Int.mul_assoc, Int.mul_emod_right]
        exact ht h3
      · exact h
    exact ⟨h1, o2 (by omega)⟩
  have hqs : t ≠ 0 → q < 18014398509481984 := fun ht => by
    have h1 := (hbig ht).1
    have h2 : (2 : Int) ^ 65 ≤ 2 ^ n := pow_le' h1
    have e65 : (2 : Int) ^ 65 = 36893488147419103232 := by decide
    have h3 : q * 36893488147419103232 ≤ q * 2 ^ n := Int.mul_le_mul_of_nonneg_left (by omega) hd0
    rw [Int.mul_comm (2 ^ n)] at hde
    omega
  have hlow : (wrightM (wleftM (0, (partsM b).1) 64) (n : Int)).2 = decide (¬ t = 0) := hr.2
  have hew : IntKind.i64.wrap ((partsM a).2 - (partsM b).2) = (n : Int) := by rw [wrap_i64 (by omega)]; exact hn
  have hew2 : IntKind.i64.wrap ((partsM a).2 - 64) = E := by rw [wrap_i64 (by omega)]; exact hE
  have hq1 : wv (wrightM (wleftM (0, (partsM b).1) 64) (n : Int)).1 = q := hr.1
  by_cases hs : negM a = negM b
  · -- of one sign
    have hsum := wadd_v hpi hri
    rw [hp, hq1, Int.emod_eq_of_lt (by omega) (by omega)] at hsum
    have hr2 : add2 a b = roundM (negM a) (waddM (wleftM (0, (partsM a).1) 64) (wrightM (wleftM (0, (partsM b).1) 64) (n : Int)).1).1 E (decide (¬ t = 0)) := by
      unfold add2
      dsimp only
      rw [hew, hew2, if_pos hs, hlow]
    obtain ⟨ρ, hρ⟩ := round_val (negM a) (waddM_in (wleftM (0, (partsM a).1) 64) (wrightM (wleftM (0, (partsM b).1) 64) (n : Int)).1) (e := E) (by omega) (more := decide (¬ t = 0)) (th := th) ⟨th0, th1⟩
      (by rw [decide_eq_true_eq]; exact not_congr thz.symm) (fun h => by
        rw [decide_eq_true_eq] at h
        have := hbig h
        rw [hsum]; omega) (X := mg a + mg b) (by rw [hsum]; push_cast; exact qsum hX1 hX2)
    rw [← hr2] at hρ
    exact ⟨ρ, fun _ => hρ, fun h => absurd hs h⟩
  · -- of two signs
    have hle : q ≤ P := by
      by_cases ht : t = 0
      · rcases Int.lt_or_eq_of_le o1 with h1 | h1
        · have h2 := o2 h1
          have h3 : (2 : Int) ^ 1 ≤ 2 ^ n := pow_le' (by omega)
          have h4 : q * 2 ≤ q * 2 ^ n := Int.mul_le_mul_of_nonneg_left (by simpa using h3) hd0
          rw [Int.mul_comm (2 ^ n)] at hde
          omega
        · have := o3 h1; omega
      · have := hqs ht
        have := hbig ht
        omega
    have hmle : mg b ≤ mg a := by
      rw [hX1, hX2]
      refine mulr ?_ (pw_nn E)
      by_cases ht : t = 0
      · rw [thz.2 ht]
        exact qth0 (ile hle)
      · have h1 := hqs ht
        have h2 := hbig ht
        have : ((q + 1 : Int) : Rat) ≤ (P : Rat) := ile (by omega)
        have h3 : ((q + 1 : Int) : Rat) = (q : Rat) + 1 := by push_cast; rfl
        rw [h3] at this
        exact qth1 this th1
    -- the lesser one, rounded up
    obtain ⟨Q, hQ⟩ : ∃ Q, Q = (if (wrightM (wleftM (0, (partsM b).1) 64) (n : Int)).2 then (waddM (wrightM (wleftM (0, (partsM b).1) 64) (n : Int)).1 (0, 1)).1 else (wrightM (wleftM (0, (partsM b).1) 64) (n : Int)).1) := ⟨_, rfl⟩
    have h01 : InW ((0, 1) : W2) := ⟨zero_in, by constructor <;> decide⟩
    have hQi : InW Q := by rw [hQ]; split; exact waddM_in _ _; exact hri
    have hQv : wv Q = if t = 0 then q else q + 1 := by
      rw [hQ, hlow]
      by_cases ht : t = 0
      · rw [if_neg (by simp [ht]), if_pos ht]; exact hq1
      · rw [if_pos (by simp [ht]), if_neg ht, wadd_v hri h01, hq1, wv_z, Int.emod_eq_of_lt (by omega) (by omega)]
    have hdif := wsub_v hpi hQi
    have hQle : wv Q ≤ P := by
      rw [hQv]
      split
      · exact hle
      · rename_i ht
        have := hqs ht
        have := hbig ht
        omega
    have hQ0 := (wv_in hQi).1
    rw [hp, Int.emod_eq_of_lt (by omega) (by omega)] at hdif
    have hsz := wzero_v (wsubM_in (wleftM (0, (partsM a).1) 64) Q)
    rw [hdif] at hsz
    have hr2 : add2 a b = if (wzeroM (wsubM (wleftM (0, (partsM a).1) 64) Q).1 = true ∧ decide (¬ t = 0) = false) then (0, 0) else roundM (negM a) (wsubM (wleftM (0, (partsM a).1) 64) Q).1 E (decide (¬ t = 0)) := by
      unfold add2
      dsimp only
      rw [hew, hew2, if_neg hs, ← hQ, hlow]
    by_cases hc : wzeroM (wsubM (wleftM (0, (partsM a).1) 64) Q).1 = true ∧ decide (¬ t = 0) = false
    · rw [if_pos hc] at hr2
      rw [hr2]
      have ht : t = 0 := by simpa using hc.2
      have h1 := hc.1
      rw [hsz, decide_eq_true_eq, hQv, if_pos ht] at h1
      have heq : mg a = mg b := by
        rw [hX1, hX2, thz.2 ht]
        have : q = P := by omega
        rw [this, Rat.add_zero]
      have h0 : mg 0 = 0 := (mg_zero zero_in (by decide)).2 (by decide)
      have hself := RdOf.self zero_in (by decide : finiteM 0 = true)
      rw [h0] at hself
      have hX0 : mg a - mg b = 0 := by rw [heq, Rat.sub_self]
      rw [hX0]
      exact ⟨0, fun h => absurd h hs, fun _ => ⟨hmle, negM 0, fun h => absurd (heq ▸ h) Rat.lt_irrefl, hself⟩⟩
    · rw [if_neg hc] at hr2
      obtain ⟨ρ, hρ⟩ := round_val (negM a) (wsubM_in (wleftM (0, (partsM a).1) 64) Q) (e := E) (by omega) (more := decide (¬ t = 0)) (th := if t = 0 then 0 else 1 - th)
        (by split; constructor <;> grind; rename_i ht; have : th ≠ 0 := fun e => ht (thz.1 e); constructor <;> grind)
        (by rw [decide_eq_true_eq]; split; simp [*]; rename_i ht; constructor; intro _; grind; intro _; exact ht) (fun h => by
          rw [decide_eq_true_eq] at h
          have h2 := hbig h
          have h3 := hqs h
          rw [hdif, hQv, if_neg h]; omega) (X := mg a - mg b) (by
          rw [hdif, hQv]
          by_cases ht : t = 0
          · rw [if_pos ht, if_pos ht]; push_cast; exact qdif0 hX1 (by rw [hX2, thz.2 ht])
          · rw [if_neg ht, if_neg ht]; push_cast; exact qdif1 hX1 hX2)
      rw [← hr2] at hρ
      exact ⟨ρ, fun h => absurd h hs, fun _ => ⟨hmle, negM a, fun _ => rfl, hρ⟩⟩
end Go.Proofs.YtcikcinkjbbnhaaDoor.M
