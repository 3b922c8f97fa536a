/- What comes of a number times a power of two hangs on nothing but the number and its sign. -/
import Derived.Test.YtcikcinkjbbnhaaDoorY8
set_option linter.unusedSimpArgs false
set_option linter.unusedVariables false
set_option maxRecDepth 10000
set_option maxHeartbeats 400000
namespace Go.Proofs.YtcikcinkjbbnhaaDoor.M
open Go Go.Proofs

theorem round_core (s : Bool) {w : W2} (hw : InW w) {e : Int} (he : -3000 ≤ e ∧ e ≤ 3000) (hpos : 0 < wv w) {X : Rat} (hX : X = (wv w : Rat) * pw e) :
    ∃ (E m : Int) (lost tiny : Bool), pw E ≤ 2 * X ∧ X < pw E ∧ Nr X (pw (if E - 53 < -1074 then -1074 else E - 53)) m ∧ roundM s w e false = round3 s (round2 m (if E - 53 < -1074 then -1074 else E - 53)).1 (round2 m (if E - 53 < -1074 then -1074 else E - 53)).2 lost tiny := by
  have hb := wv_in hw
  have hc : clampM e = e := by
    unfold clampM
    rw [if_neg (by omega : ¬ (100000 : Int) < e), if_pos (by omega)]
  have hz := wzero_v hw
  obtain ⟨L, hL1, hL2, hL⟩ := wlen_v hw
  have hLpos : 1 ≤ L := by
    rcases Nat.lt_or_ge 0 L with h | h
    · exact h
    · have h1 := hL.1
      have : L = 0 := by omega
      subst this
      simp at h1
      omega
  have hLlow := hL.2 hpos
  obtain ⟨drop, hdrop⟩ : ∃ drop : Int, drop = if e + ((L : Int) - 53) < -1074 then -1074 - e else (L : Int) - 53 := ⟨_, rfl⟩
  have hdr : (L : Int) - 53 ≤ drop ∧ -1074 ≤ e + drop ∧ drop ≤ 3000 ∧ e + drop = (if e + (L : Int) - 53 < -1074 then -1074 else e + (L : Int) - 53) := by
    by_cases hcc : e + ((L : Int) - 53) < -1074
    · rw [if_pos hcc] at hdrop; rw [if_pos (by omega)]; omega
    · rw [if_neg hcc] at hdrop; rw [if_neg (by omega)]; omega
  obtain ⟨hd1, hd2, hd3, hd4⟩ := hdr
  have hX0 : X = ((wv w : Rat) + 0) * pw e := by rw [Rat.add_zero]; exact hX
  have hXlow : pw (e + (L : Int)) ≤ 2 * X := by
    rw [Int.add_comm, pw_add, pw_nat, hX]
    have h1 : (((2 : Int) ^ L : Int) : Rat) ≤ ((2 * wv w : Int) : Rat) := ile hLlow
    have h2 : ((2 * wv w : Int) : Rat) = 2 * (wv w : Rat) := by push_cast; rfl
    have h3 := mulr (c := pw e) (show (((2 : Int) ^ L : Int) : Rat) ≤ 2 * (wv w : Rat) by grind) (pw_nn e)
    grind
  have hXup : X < pw (e + (L : Int)) := by
    rw [Int.add_comm, pw_add, pw_nat, hX]
    exact mulrl (ilt hL.1) (pw_pos e)
  obtain ⟨m, hm1, hm2, hm3, hnr, hlost⟩ := round1_val (more := false) hw hL hpos hd1 (by omega) (by omega) (th := 0) ⟨Rat.le_refl, by decide⟩ (by simp) (by simp) (by
    intro hneg
    have h1 : (wv w) * 2 ^ (-drop).toNat ≤ (2 ^ L - 1) * 2 ^ (-drop).toNat := Int.mul_le_mul_of_nonneg_right (by have := hL.1; omega) (Int.le_of_lt (ppos _))
    have h2 : (2 : Int) ^ L * 2 ^ (-drop).toNat ≤ 2 ^ 53 := by
      rw [← Int.pow_add]
      exact pow_le' (by omega)
    have e53 : (2 : Int) ^ 53 = 9007199254740992 := by decide
    have h3 := ppos (-drop).toNat
    have h4 : ((2 : Int) ^ L - 1) * 2 ^ (-drop).toNat = 2 ^ L * 2 ^ (-drop).toNat - 2 ^ (-drop).toNat := by rw [Int.sub_mul, Int.one_mul]
    omega) hX0
  refine ⟨e + L, m, (round1 w drop false).2, decide (e + (L : Int) < -1021), hXlow, hXup, by rw [← hd4]; exact hnr, ?_⟩
  rw [← hd4]
  unfold roundM
  rw [hc, hz, decide_eq_false (by omega : ¬ wv w = 0)]
  simp only [Bool.false_eq_true, if_false]
  rw [hL1, wrap_i64 (n := (L : Int) - 53) (by omega), wrap_i64 (n := e + ((L : Int) - 53)) (by omega), wrap_i64 (n := -1074 - e) (by omega), wrap_i64 (n := e + (L : Int)) (by omega), ← hdrop, hm1, wrap_i64 (n := e + drop) (by omega)]
theorem round3_fst (s : Bool) (m q : Int) (l t l' t' : Bool) : (round3 s m q l t).1 = (round3 s m q l' t').1 := by
  unfold round3
  dsimp only
  split
  · rfl
  · split <;> rfl
theorem round_det (s : Bool) {w w' : W2} (hw : InW w) (hw' : InW w') {e e' : Int} (he : -3000 ≤ e ∧ e ≤ 3000) (he' : -3000 ≤ e' ∧ e' ≤ 3000) (h0 : 0 < wv w) (h0' : 0 < wv w') (hX : (wv w : Rat) * pw e = (wv w' : Rat) * pw e') : (roundM s w e false).1 = (roundM s w' e' false).1 := by
  obtain ⟨E, m, l, t, a1, a2, a3, a4⟩ := round_core s hw he h0 rfl
  obtain ⟨E', m', l', t', b1, b2, b3, b4⟩ := round_core s hw' he' h0' rfl
  rw [← hX] at b1 b2 b3
  have hE : E = E' := by
    have c1 : pw E < pw (E' + 1) := by rw [pw_succ]; grind
    have c2 : pw E' < pw (E + 1) := by rw [pw_succ]; grind
    have := pw_inv c1
    have := pw_inv c2
    omega
  subst hE
  have := Nr.det (pw_pos _) a3 b3
  subst this
  rw [a4, b4]
  exact round3_fst _ _ _ _ _ _ _
/-- The same number, in two ways. -/
theorem scale_det {x y n k : Int} (hx : Fn x) (hy : Fn y) (hs : negM x = negM y) (hn : -1900 ≤ n ∧ n ≤ 1900) (hk : -1900 ≤ k ∧ k ≤ 1900) (h : mg x * pw n = mg y * pw k) : (scaleM x n).1 = (scaleM y k).1 := by
  have kx := fin_kk hx.fin
  have ky := fin_kk hy.fin
  have ex := part_e hx.inu hx.fin
  have ey := part_e hy.inu hy.fin
  have px := parts53 hx.inu
  have py := parts53 hy.inu
  have hc : ∀ n : Int, -1900 ≤ n ∧ n ≤ 1900 → (if -10000 < (if 10000 < n then 10000 else n) then (if 10000 < n then 10000 else n) else -10000) = n := fun n hn => by
    rw [if_neg (by omega : ¬ 10000 < n), if_pos (by omega)]
  have hzz : kindM x = 1 ↔ kindM y = 1 := by
    rw [← mg_zero hx.inu hx.fin, ← mg_zero hy.inu hy.fin]
    constructor
    · intro e
      rw [e, Rat.zero_mul] at h
      rcases Rat.mul_eq_zero.1 h.symm with e | e
      · exact e
      · exact absurd e (pw_ne _)
    · intro e
      rw [e, Rat.zero_mul] at h
      rcases Rat.mul_eq_zero.1 h with e | e
      · exact e
      · exact absurd e (pw_ne _)
  unfold scaleM
  rw [if_neg kx.1, if_neg ky.1, hc n hn, hc k hk]
  by_cases z : kindM x = 1
  · have z' := hzz.1 z
    rw [if_pos (.inr z), if_pos (.inr z')]
    rw [kind_zero hx.inu, absM_eq hx.inu] at z
    rw [kind_zero hy.inu, absM_eq hy.inu] at z'
    rw [negM_eq hx.inu, negM_eq hy.inu, decide_eq_decide] at hs
    have a1 := hx.inu.1
    have a2 := hx.inu.2
    have b1 := hy.inu.1
    have b2 := hy.inu.2
    show x = y
    omega
  · have z' := fun e => z (hzz.2 e)
    rw [if_neg (fun h => h.elim kx.2 z), if_neg (fun h => h.elim ky.2 z'), wrap_i64 (by omega), wrap_i64 (by omega), hs]
    have m1 : (partsM x).1 ≠ 0 := fun e => z ((mg_zero hx.inu hx.fin).1 (by unfold mg; rw [e, Rat.intCast_zero, Rat.zero_mul]))
    have m2 : (partsM y).1 ≠ 0 := fun e => z' ((mg_zero hy.inu hy.fin).1 (by unfold mg; rw [e, Rat.intCast_zero, Rat.zero_mul]))
    refine round_det _ ⟨zero_in, parts_in hx.inu⟩ ⟨zero_in, parts_in hy.inu⟩ (by omega) (by omega) (by rw [wv_z]; omega) (by rw [wv_z]; omega) ?_
    rw [wv_z, wv_z, pw_add, pw_add, ← Rat.mul_assoc, ← Rat.mul_assoc]
    exact h
end Go.Proofs.YtcikcinkjbbnhaaDoor.M
