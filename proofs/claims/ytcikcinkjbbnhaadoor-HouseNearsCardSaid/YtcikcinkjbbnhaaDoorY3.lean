/- What round.Round answers, as a fraction. -/
import Derived.Test.YtcikcinkjbbnhaaDoorY2
set_option linter.unusedSimpArgs false
set_option linter.unusedVariables false
set_option maxRecDepth 10000
set_option maxHeartbeats 4000000
namespace Go.Proofs.YtcikcinkjbbnhaaDoor.M
open Go Go.Proofs

theorem low_of {w : W2} (hw : InW w) (h : wv w < 18446744073709551616) : w.1 = 0 ∧ w.2 = wv w := by
  obtain ⟨⟨h1, h2⟩, h3, h4⟩ := hw
  unfold wv at h ⊢; omega
theorem low_par {w : W2} (hw : InW w) : w.2 % 2 = wv w % 2 := by
  obtain ⟨⟨h1, h2⟩, h3, h4⟩ := hw
  unfold wv; omega
theorem and_1 {x : Int} (h : InU x) : bits .and .u64 x 1 = x % 2 := by
  have h1 := h.1
  have h2 := h.2
  go_bits2
theorem pow_pos' (n : Nat) : (1 : Int) ≤ 2 ^ n := by have := ppos n; omega
theorem pow_le' {a b : Nat} (h : a ≤ b) : (2 : Int) ^ a ≤ 2 ^ b := by exact_mod_cast Nat.pow_le_pow_right (show 0 < 2 by decide) h

/-- The first step of rounding: what is left of the number, and whether anything was lost. -/
theorem round1_val {w : W2} (hw : InW w) {L : Nat} (hL : Ln (wv w) L) (hpos : 0 < wv w) {drop : Int} (hd : (L : Int) - 53 ≤ drop) (hd2 : drop ≤ 5000) (hd3 : -200 ≤ drop) {more : Bool} {th : Rat} (hth : 0 ≤ th ∧ th < 1) (hmore : more = true ↔ th ≠ 0) (hbig : more = true → 9007199254740992 ≤ wv w)
    (hneg : drop < 0 → wv w * 2 ^ (-drop).toNat < 9007199254740992) {e : Int} {X : Rat} (hX : X = ((wv w : Rat) + th) * pw e) :
    ∃ m : Int, (round1 w drop more).1 = (0, m) ∧ 0 ≤ m ∧ m ≤ 9007199254740992 ∧ Nr X (pw (e + drop)) m ∧ ((round1 w drop more).2 = false → X = (m : Rat) * pw (e + drop)) := by
  have hb := wv_in hw
  have hln : wv w < 2 ^ L := hL.1
  rcases Int.lt_or_le 0 drop with h0 | h0
  · obtain ⟨n, rfl⟩ := Int.eq_ofNat_of_zero_le (Int.le_of_lt h0)
    obtain ⟨k, rfl⟩ : ∃ k, n = k + 1 := ⟨n - 1, by omega⟩
    have hr := wright_v hw (n := k + 1)
    have hrin := wright_in hw ((k + 1 : Nat) : Int)
    have hh := pow_pos' k
    have hD : (2 : Int) ^ (k + 1) = 2 * 2 ^ k := by rw [Int.pow_succ]; omega
    have hrlt : wv w / 2 ^ (k + 1) < 9007199254740992 := by
      rw [Int.ediv_lt_iff_lt_mul (ppos _)]
      have h1 : (2 : Int) ^ L ≤ 2 ^ (53 + (k + 1)) := pow_le' (by omega)
      have h2 : (2 : Int) ^ (53 + (k + 1)) = 9007199254740992 * 2 ^ (k + 1) := by rw [Int.pow_add]; rfl
      omega
    have hr0 : 0 ≤ wv w / 2 ^ (k + 1) := Int.ediv_nonneg hb.1 (Int.le_of_lt (ppos _))
    have hlow := low_of hrin (by rw [hr.1]; omega)
    rw [hr.1] at hlow
    have hde := Int.mul_ediv_add_emod (wv w) (2 ^ (k + 1))
    have hm0 := Int.emod_nonneg (wv w) (show (2 : Int) ^ (k + 1) ≠ 0 by have := ppos (k + 1); omega)
    have hm1 := Int.emod_lt_of_pos (wv w) (ppos (k + 1))
    obtain ⟨r, hre⟩ : ∃ r, wv w / 2 ^ (k + 1) = r := ⟨_, rfl⟩
    obtain ⟨t, hte⟩ : ∃ t, wv w % 2 ^ (k + 1) = t := ⟨_, rfl⟩
    rw [hre] at hrlt hr0 hlow hde hr
    rw [hte] at hm0 hm1 hde hr
    -- half of the last place, and what stands beneath
    have hsp : (splitM w ((k + 1 : Nat) : Int) (wrightM w ((k + 1 : Nat) : Int)).2).1 = decide ((2 : Int) ^ k ≤ t) ∧ ((2 : Int) ^ k ≤ t → (splitM w ((k + 1 : Nat) : Int) (wrightM w ((k + 1 : Nat) : Int)).2).2 = decide (t ≠ 2 ^ k)) ∧
        (t ≠ 0 → (splitM w ((k + 1 : Nat) : Int) (wrightM w ((k + 1 : Nat) : Int)).2).1 = true ∨ (splitM w ((k + 1 : Nat) : Int) (wrightM w ((k + 1 : Nat) : Int)).2).2 = true) := by
      unfold splitM
      by_cases h128 : (128 : Int) < ((k + 1 : Nat) : Int)
      · rw [if_pos h128]
        have h1 : (2 : Int) ^ 128 ≤ 2 ^ k := pow_le' (by omega)
        have e128 : (2 : Int) ^ 128 = 340282366920938463463374607431768211456 := by decide
        have hlt : t < 2 ^ k := by
          have h2 : 0 ≤ 2 ^ (k + 1) * r := Int.mul_nonneg (Int.le_of_lt (ppos _)) hr0
          omega
        refine ⟨by simp; omega, fun h => by omega, fun h => .inr ?_⟩
        rw [hr.2]; simp; exact h
      · rw [if_neg h128]
        have e1 : IntKind.i64.wrap (((k + 1 : Nat) : Int) - 1) = (k : Int) := by rw [wrap_i64 (by omega)]; omega
        rw [e1]
        have hr2 := wright_v hw (n := k)
        have hrin2 := wright_in hw (k : Int)
        dsimp only
        have hpar := low_par hrin2
        rw [hr2.1] at hpar
        have hinU : InU (wrightM w (k : Int)).1.2 := hrin2.2
        rw [and_1 hinU, hpar, hr2.2]
        have hdiv : wv w / 2 ^ k = 2 * r + t / 2 ^ k := by
          rw [← hde, hD, show 2 * 2 ^ k * r + t = t + 2 ^ k * (2 * r) by
            have : 2 * 2 ^ k * r = 2 ^ k * (2 * r) := by rw [Int.mul_comm 2, Int.mul_assoc]
            omega, Int.add_mul_ediv_left _ _ (by omega)]
          omega
        have hmod : wv w % 2 ^ k = t % 2 ^ k := by
          rw [← hde, hD, show 2 * 2 ^ k * r + t = t + 2 ^ k * (2 * r) by
            have : 2 * 2 ^ k * r = 2 ^ k * (2 * r) := by rw [Int.mul_comm 2, Int.mul_assoc]
            omega, Int.add_mul_emod_self_left]
        rw [hdiv, hmod]
        rcases Int.lt_or_le t (2 ^ k) with hlt | hge
        · have h1 : t / 2 ^ k = 0 := Int.ediv_eq_zero_of_lt hm0 hlt
          have h2 : t % 2 ^ k = t := Int.emod_eq_of_lt hm0 hlt
          rw [h1, h2]
          refine ⟨?_, fun h => by omega, fun h => .inr (by simp [h])⟩
          rw [decide_eq_decide]; omega
        · have h1 : t / 2 ^ k = 1 := by
            rw [show t = (t - 2 ^ k) + 2 ^ k * 1 by omega, Int.add_mul_ediv_left _ _ (by omega), Int.ediv_eq_zero_of_lt (by omega) (by omega)]
            rfl
          have h2 : t % 2 ^ k = t - 2 ^ k := by
            rw [show t = (t - 2 ^ k) + 2 ^ k * 1 by omega, Int.add_mul_emod_self_left, Int.emod_eq_of_lt (by omega) (by omega)]
            omega
          rw [h1, h2]
          refine ⟨?_, fun _ => ?_, fun h => .inl ?_⟩
          · rw [decide_eq_decide]; omega
          · rw [decide_eq_decide]; omega
          · rw [decide_eq_true_eq]; omega
    have hrodd : bits .and .u64 (wrightM w ((k + 1 : Nat) : Int)).1.2 1 = r % 2 := by rw [and_1 hrin.2, hlow.2]
    -- what is left
    have hup : (waddM (wrightM w ((k + 1 : Nat) : Int)).1 (0, 1)).1 = (0, r + 1) := by
      have h1 := wadd_v hrin (b := (0, 1)) ⟨zero_in, by constructor <;> decide⟩
      rw [hr.1, wv_z] at h1
      have h2 := low_of (waddM_in (wrightM w ((k + 1 : Nat) : Int)).1 (0, 1)) (by rw [h1]; omega)
      rw [h1] at h2
      refine Prod.ext h2.1 ?_
      rw [h2.2]; omega
    have hdn : (wrightM w ((k + 1 : Nat) : Int)).1 = (0, r) := Prod.ext hlow.1 hlow.2
    have hm : (round1 w ((k + 1 : Nat) : Int) more).1 = (0, if 2 ^ k ≤ t ∧ (t ≠ 2 ^ k ∨ th ≠ 0 ∨ r % 2 = 1) then r + 1 else r) := by
      unfold round1
      rw [if_pos h0]
      dsimp only
      rw [hsp.1, hrodd]
      by_cases h1 : (2 : Int) ^ k ≤ t
      · rw [hsp.2.1 h1]
        by_cases h2 : t ≠ 2 ^ k ∨ th ≠ 0 ∨ r % 2 = 1
        · have : (decide ((2 : Int) ^ k ≤ t) && (decide (t ≠ 2 ^ k) || more || decide (r % 2 = 1))) = true := by
            simp only [Bool.and_eq_true, Bool.or_eq_true, decide_eq_true_eq]
            refine ⟨h1, ?_⟩
            rcases h2 with h2 | h2 | h2
            · exact .inl (.inl h2)
            · exact .inl (.inr (hmore.2 h2))
            · exact .inr h2
          rw [this, if_pos rfl, if_pos ⟨h1, h2⟩, hup]
        · have : (decide ((2 : Int) ^ k ≤ t) && (decide (t ≠ 2 ^ k) || more || decide (r % 2 = 1))) = false := by
            rw [Bool.and_eq_false_iff]
            right
            simp only [Bool.or_eq_false_iff, decide_eq_false_iff_not]
            refine ⟨⟨fun h => h2 (.inl h), ?_⟩, fun h => h2 (.inr (.inr h))⟩
            cases hmo : more with
            | false => rfl
            | true => exact absurd (.inr (.inl (hmore.1 hmo))) h2
          rw [this, if_neg (by decide), if_neg (fun h => h2 h.2), hdn]
      · have : decide ((2 : Int) ^ k ≤ t) = false := by simpa using h1
        rw [this, Bool.false_and, if_neg (by decide), if_neg (fun h => h1 h.1), hdn]
    have hpe : pw (e + ((k + 1 : Nat) : Int)) = (((2 : Int) ^ (k + 1) : Int) : Rat) * pw e := by rw [Int.add_comm, pw_add, pw_nat]
    refine ⟨_, hm, ?_, ?_, ?_, ?_⟩
    · split <;> omega
    · split <;> omega
    · rw [hpe]
      exact Nr.of_parts (D := 2 ^ (k + 1)) (h := 2 ^ k) (t := t) (r := r) (th := th) hD hh ⟨hm0, hm1⟩ hth rfl (pw_pos e) (by rw [hX, ← hde, Int.mul_comm])
    · intro hl
      unfold round1 at hl
      rw [if_pos h0] at hl
      dsimp only at hl
      simp only [Bool.or_eq_false_iff] at hl
      have hth0 : th = 0 := by
        by_cases h1 : th = 0
        · exact h1
        · rw [hmore.2 h1] at hl; exact absurd hl.2 (by decide)
      have ht0 : t = 0 := by
        by_cases h1 : t = 0
        · exact h1
        · rcases hsp.2.2 h1 with h2 | h2
          · rw [h2] at hl; exact absurd hl.1.1 (by decide)
          · rw [h2] at hl; exact absurd hl.1.2 (by decide)
      rw [if_neg (fun h => by have := h.1; omega), hpe, hX, hth0, ← hde, ht0]
      push_cast
      grind
  · have hmf : more = false := by
      cases hmo : more with
      | false => rfl
      | true =>
        have h1 := hbig hmo
        have h2 : (L : Int) ≤ 53 := by omega
        have h3 : (2 : Int) ^ L ≤ 2 ^ 53 := pow_le' (by omega)
        have e53 : (2 : Int) ^ 53 = 9007199254740992 := by decide
        omega
    have hth0 : th = 0 := by
      by_cases h1 : th = 0
      · exact h1
      · rw [hmore.2 h1] at hmf; cases hmf
    subst hmf
    rcases Int.lt_or_eq_of_le h0 with h1 | h1
    · obtain ⟨n, hn⟩ := Int.eq_ofNat_of_zero_le (show 0 ≤ -drop by omega)
      have hlt := hneg h1
      rw [hn, Int.toNat_natCast] at hlt
      have hw1 : IntKind.i64.wrap (0 - drop) = (n : Int) := by rw [wrap_i64 (by omega)]; omega
      have hl := wleft_v hw (n := n) (by omega)
      rw [Int.emod_eq_of_lt (Int.mul_nonneg hb.1 (Int.le_of_lt (ppos n))) (by omega)] at hl
      have h2 := low_of (wleft_in hw n) (by omega)
      have hr1 : round1 w drop false = (wleftM w (n : Int), false) := by
        unfold round1
        rw [if_neg (by omega), if_pos h1, hw1]
      have hval : X = ((wv w * 2 ^ n : Int) : Rat) * pw (e + drop) := by
        have : pw e = (((2 : Int) ^ n : Int) : Rat) * pw (e + drop) := by rw [← pw_nat, ← pw_add]; congr 1; omega
        rw [hX, hth0, this]
        push_cast
        grind
      rw [hr1]
      refine ⟨wv w * 2 ^ n, Prod.ext h2.1 (by rw [h2.2, hl]), Int.mul_nonneg hb.1 (Int.le_of_lt (ppos n)), by omega, Nr.of_exact (pw_pos _) hval.symm, fun _ => hval⟩
    · subst h1
      have h3 : (2 : Int) ^ L ≤ 2 ^ 53 := pow_le' (by omega)
      have e53 : (2 : Int) ^ 53 = 9007199254740992 := by decide
      have h2 := low_of hw (by omega)
      have hr1 : round1 w 0 false = (w, false) := by
        unfold round1
        rw [if_neg (by omega), if_neg (by omega)]
      have hval : X = ((wv w : Int) : Rat) * pw (e + 0) := by
        rw [hX, hth0, Int.add_zero]
        grind
      rw [hr1]
      exact ⟨wv w, Prod.ext h2.1 h2.2, hb.1, by omega, Nr.of_exact (pw_pos _) hval.symm, fun _ => hval⟩

/-- What is rounded: the pattern, the flags. -/
structure RdOf (s : Bool) (X : Rat) (r : Int × Int) (ρ : Rat) : Prop where
  rn : Rnd X ρ
  inu : InU r.1
  fin : ρ < pw 1024 → finiteM r.1 = true ∧ negM r.1 = s ∧ mg r.1 = ρ
  inf : pw 1024 ≤ ρ → kindM r.1 = 4 ∧ negM r.1 = s
  fl : r.2 = 0 ∨ r.2 = 1 ∨ r.2 = 3 ∨ r.2 = 5 ∨ r.2 = 7
  f0 : r.2 = 0 → ρ = X
  f1 : r.2 = 1 ∨ r.2 = 5 → ab (ρ - X) ≤ pw (-53) * X
  fo : r.2 = 5 ∨ r.2 = 7 ↔ pw 1024 ≤ ρ
theorem or0 (f : Int) (hf : f = 0 ∨ f = 1 ∨ f = 3) : bits .or .u8 (bits .or .u8 f 4) 1 = (if f = 3 then 7 else 5) := by
  rcases hf with rfl | rfl | rfl <;> decide
theorem round_val (s : Bool) {w : W2} (hw : InW w) {e : Int} (he : -3000 ≤ e ∧ e ≤ 3000) {more : Bool} {th : Rat} (hth : 0 ≤ th ∧ th < 1) (hmore : more = true ↔ th ≠ 0) (hbig : more = true → 9007199254740992 ≤ wv w)
    {X : Rat} (hX : X = ((wv w : Rat) + th) * pw e) : ∃ ρ, RdOf s X (roundM s w e more) ρ := by
  have hb := wv_in hw
  have hin := roundM_in s w e more
  have hc : clampM e = e := by
    unfold clampM
    rw [if_neg (by omega : ¬ (100000 : Int) < e), if_pos (by omega)]
  have hz := wzero_v hw
  by_cases h0 : wv w = 0
  · have hmf : more = false := by
      cases hmo : more with
      | false => rfl
      | true => have := hbig hmo; omega
    have hth0 : th = 0 := by
      by_cases h1 : th = 0
      · exact h1
      · rw [hmore.2 h1] at hmf; cases hmf
    have hX0 : X = 0 := by rw [hX, h0, hth0]; grind
    subst hX0
    have hr : roundM s w e more = (makeM s 0 0, 0) := by
      unfold roundM
      rw [hmf, hz, decide_eq_true h0]
      rfl
    have h1024 := pw_pos 1024
    rw [hr] at hin ⊢
    refine ⟨0, Rnd.of_rep rep_zero Rat.le_refl, hin, fun _ => ⟨finite_make s (by decide) (by decide) zero_in, neg_make s (by decide) (by decide) zero_in, ?_⟩, fun h => by grind, .inl rfl, fun _ => rfl, fun h => by simp at h, ⟨fun h => by simp at h, fun h => by grind⟩⟩
    rw [mg_make0 s (by decide) (by decide)]; simp
  have hpos : 0 < wv w := by omega
  obtain ⟨L, hL1, hL2, hL⟩ := wlen_v hw
  have hLpos : 1 ≤ L := by
    rcases Nat.lt_or_ge 0 L with h | h
    · exact h
    · have h1 := hL.1
      have : L = 0 := by omega
      subst this
      simp at h1
      omega
  have hLlow := hL.2 hpos
  obtain ⟨drop, hdrop⟩ : ∃ drop : Int, drop = if e + ((L : Int) - 53) < -1074 then -1074 - e else (L : Int) - 53 := ⟨_, rfl⟩
  have hdr : (L : Int) - 53 ≤ drop ∧ -1074 ≤ e + drop ∧ drop ≤ 3000 ∧ (drop = (L : Int) - 53 ∨ e + drop = -1074) := by
    by_cases hcc : e + ((L : Int) - 53) < -1074
    · rw [if_pos hcc] at hdrop; omega
    · rw [if_neg hcc] at hdrop; omega
  obtain ⟨hd1, hd2, hd3, hd4⟩ := hdr
  have hX0 : 0 < X := by
    rw [hX]
    refine Rat.mul_pos ?_ (pw_pos e)
    have : (0 : Rat) < (wv w : Rat) := ilt hpos
    grind
  have hXlow : pw (e + (L : Int)) ≤ 2 * X := by
    rw [Int.add_comm, pw_add, pw_nat, hX]
    have h1 : (((2 : Int) ^ L : Int) : Rat) ≤ ((2 * wv w : Int) : Rat) := ile hLlow
    have h2 : ((2 * wv w : Int) : Rat) = 2 * (wv w : Rat) := by push_cast; rfl
    have h3 := mulr (c := pw e) (show (((2 : Int) ^ L : Int) : Rat) ≤ 2 * ((wv w : Rat) + th) by grind) (pw_nn e)
    grind
  have hXup : X < pw (e + (L : Int)) := by
    rw [Int.add_comm, pw_add, pw_nat, hX]
    have h1 : ((wv w + 1 : Int) : Rat) ≤ (((2 : Int) ^ L : Int) : Rat) := ile hL.1
    have h2 : ((wv w + 1 : Int) : Rat) = (wv w : Rat) + 1 := by push_cast; rfl
    exact mulrl (by grind) (pw_pos e)
  obtain ⟨m, hm1, hm2, hm3, hnr, hlost⟩ := round1_val hw hL hpos hd1 (by omega) (by omega) hth hmore hbig (by
    intro hneg
    have h1 : (wv w) * 2 ^ (-drop).toNat ≤ (2 ^ L - 1) * 2 ^ (-drop).toNat := Int.mul_le_mul_of_nonneg_right (by have := hL.1; omega) (Int.le_of_lt (ppos _))
    have h2 : (2 : Int) ^ L * 2 ^ (-drop).toNat ≤ 2 ^ 53 := by
      rw [← Int.pow_add]
      exact pow_le' (by omega)
    have e53 : (2 : Int) ^ 53 = 9007199254740992 := by decide
    have h3 := ppos (-drop).toNat
    have h4 : ((2 : Int) ^ L - 1) * 2 ^ (-drop).toNat = 2 ^ L * 2 ^ (-drop).toNat - 2 ^ (-drop).toNat := by rw [Int.sub_mul, Int.one_mul]
    omega) hX
  have hq : e + drop = -1074 ∨ pw (e + drop + 52) ≤ X := by
    rcases hd4 with h | h
    · right
      have e1 : pw (e + (L : Int)) = 2 * pw (e + drop + 52) := by rw [← pw_succ]; congr 1; omega
      grind
    · exact .inl h
  have hrn := Rnd.of_nr hnr (Rat.le_of_lt hX0) hd2 hm3 hq
  -- m is great where the grid isn't the finest
  have hmbig : m < 4503599627370496 → e + drop = -1074 := fun h => by
    rcases hq with h1 | h1
    · exact h1
    · exfalso
      have h2 := hnr.lo 4503599627370496 (by
        have := pw52 (e + drop)
        have h3 : ((4503599627370496 : Int) : Rat) * pw (e + drop) = pw (e + drop + 52) := by rw [this]; push_cast; rfl
        rw [h3]; exact h1)
      omega
  obtain ⟨lost, hlo⟩ : ∃ l, (round1 w drop more).2 = l := ⟨_, rfl⟩
  rw [hlo] at hlost
  have hr : roundM s w e more = round3 s (round2 m (e + drop)).1 (round2 m (e + drop)).2 lost (decide (e + (L : Int) < -1021)) := by
    unfold roundM
    rw [hc, hz, decide_eq_false h0]
    simp only [Bool.false_eq_true, if_false]
    rw [hL1, wrap_i64 (n := (L : Int) - 53) (by omega), wrap_i64 (n := e + ((L : Int) - 53)) (by omega), wrap_i64 (n := -1074 - e) (by omega), wrap_i64 (n := e + (L : Int)) (by omega), ← hdrop, hm1, hlo, wrap_i64 (n := e + drop) (by omega)]
  -- the number at its power of two
  obtain ⟨m2, q2, h2, hv2, hm2r, hq2⟩ : ∃ m2 q2 : Int, round2 m (e + drop) = (m2, q2) ∧ (m2 : Rat) * pw q2 = (m : Rat) * pw (e + drop) ∧ (0 ≤ m2 ∧ m2 < 9007199254740992) ∧ (m2 < 4503599627370496 → q2 = -1074) ∧ -1074 ≤ q2 ∧ q2 ≤ 6200 := by
    unfold round2
    by_cases h : m = 9007199254740992
    · rw [if_pos h, wrap_i64 (by omega)]
      have e1 : shrV .u64 m 1 = 4503599627370496 := by
        rw [h, shrK (by decide)]; decide
      rw [e1]
      refine ⟨_, _, rfl, ?_, by decide, fun h => by omega, by omega, by omega⟩
      rw [h, pw_succ]
      push_cast
      grind
    · rw [if_neg h]
      exact ⟨_, _, rfl, rfl, ⟨hm2, by omega⟩, hmbig, hd2, by omega⟩
  obtain ⟨hq2a, hq2b, hq2c⟩ := hq2
  have hover : pw 1024 ≤ (m : Rat) * pw (e + drop) ↔ ¬ m2 < 4503599627370496 ∧ 2047 ≤ q2 + 1075 := by
    rw [← hv2]
    have h53 : (m2 : Rat) < (9007199254740992 : Rat) := ilt hm2r.2
    constructor
    · intro h
      have h1 : pw 1024 < pw (q2 + 53) := by
        rw [pw53]
        have := mulrl h53 (pw_pos q2)
        grind
      have := pw_inv h1
      refine ⟨fun h2 => ?_, by omega⟩
      have := hq2a h2
      omega
    · rintro ⟨h1, h2⟩
      have h3 : (4503599627370496 : Rat) ≤ (m2 : Rat) := ile (a := 4503599627370496) (by omega)
      have h4 := mulr h3 (pw_nn q2)
      have h5 := pw52 q2
      have h6 : pw 1024 ≤ pw (q2 + 52) := pw_le (by omega)
      grind
  have hmU : InU m2 := ⟨hm2r.1, by omega⟩
  -- the flags
  obtain ⟨f, hf⟩ : ∃ f : Int, f = if lost = true then (if e + (L : Int) < -1021 then 3 else 1) else 0 := ⟨_, rfl⟩
  have hf3 : f = 0 ∨ f = 1 ∨ f = 3 := by rw [hf]; split <;> (try split) <;> simp
  have hff : (if lost then (if decide (e + (L : Int) < -1021) then bits .or .u8 (bits .or .u8 0 1) 2 else bits .or .u8 0 1) else 0) = f := by
    rw [hf]
    cases lost
    · rfl
    · simp only [if_true, decide_eq_true_eq]
      split <;> decide
  have hf0 : f = 0 → (m : Rat) * pw (e + drop) = X := fun h => by
    refine (hlost ?_).symm
    rw [hf] at h
    cases lost
    · rfl
    · simp only [if_true] at h
      split at h <;> simp at h
  have hf1 : f = 1 → ab ((m : Rat) * pw (e + drop) - X) ≤ pw (-53) * X := fun h => by
    have ht : ¬ e + (L : Int) < -1021 := fun ht => by
      rw [hf] at h
      cases lost
      · simp at h
      · simp only [if_true, if_pos ht] at h; simp at h
    have hq' : pw (e + drop + 52) ≤ X := by
      rcases hq with h1 | h1
      · have e1 : pw (e + (L : Int)) = 2 * pw (e + (L : Int) - 1) := by rw [← pw_succ]; congr 1; omega
        have e2 : pw (e + drop + 52) ≤ pw (e + (L : Int) - 1) := pw_le (by omega)
        grind
      · exact h1
    have hn := hnr.near
    have h3 : pw (e + drop) = 2 * (pw (-53) * pw (e + drop + 52)) := by
      rw [← pw_add, ← pw_succ]; congr 1; omega
    have h4 := mull hq' (pw_nn (-53))
    grind
  refine ⟨(m : Rat) * pw (e + drop), ?_⟩
  rw [hr] at hin ⊢
  rw [h2] at hin ⊢
  unfold round3 at hin ⊢
  dsimp only at hin ⊢
  rw [hff] at hin ⊢
  rw [wrap_i64 (n := q2 + 1075) (by omega)] at hin ⊢
  by_cases hs : m2 < 4503599627370496
  · rw [if_pos hs] at hin ⊢
    have hno : ¬ pw 1024 ≤ (m : Rat) * pw (e + drop) := fun h => (hover.1 h).1 hs
    refine ⟨hrn, hin, fun _ => ⟨finite_make s (by decide) (by decide) hmU, neg_make s (by decide) (by decide) hmU, ?_⟩, fun h => absurd h hno, by dsimp only; omega, hf0, fun h => hf1 (by dsimp only at h; omega), ⟨fun h => by dsimp only at h; omega, fun h => absurd h hno⟩⟩
    dsimp only
    rw [mg_make0 s hm2r.1 hs, ← hv2, hq2a hs]
  · rw [if_neg hs] at hin ⊢
    by_cases ho : 2047 ≤ q2 + 1075
    · rw [if_pos ho] at hin ⊢
      have hyes := hover.2 ⟨hs, ho⟩
      rw [or0 f hf3] at hin ⊢
      have hk : kindM (makeM s 2047 0) = 4 := by
        unfold kindM
        rw [exp_make' s (by decide) (by decide) zero_in, frac_make s (by decide) (by decide) zero_in]
        rfl
      refine ⟨hrn, hin, fun h => by grind, fun _ => ⟨hk, neg_make s (by decide) (by decide) zero_in⟩, ?_, fun h => ?_, fun h => ?_, ⟨fun _ => hyes, fun _ => ?_⟩⟩
      · dsimp only; split <;> simp
      · dsimp only at h; split at h <;> simp at h
      · dsimp only at h
        rcases hf3 with h3 | h3 | h3
        · rw [hf0 h3, show X - X = 0 by grind, ab_zero]; exact mulnn (pw_nn _) (Rat.le_of_lt hX0)
        · exact hf1 h3
        · rw [if_pos h3] at h; simp at h
      · dsimp only; split <;> simp
    · rw [if_neg ho] at hin ⊢
      have hno : ¬ pw 1024 ≤ (m : Rat) * pw (e + drop) := fun h => ho (hover.1 h).2
      refine ⟨hrn, hin, fun _ => ⟨finite_make s (by omega) (by omega) hmU, neg_make s (by omega) (by omega) hmU, ?_⟩, fun h => absurd h hno, by dsimp only; omega, hf0, fun h => hf1 (by dsimp only at h; omega), ⟨fun h => by dsimp only at h; omega, fun h => absurd h hno⟩⟩
      dsimp only
      rw [mg_makeN s (by omega) (by omega) (by omega) hm2r.2, ← hv2]
      congr 2; omega
end Go.Proofs.YtcikcinkjbbnhaaDoor.M
