/- Exact numbers as numbers: the sign turned, left, told; a pattern's number; a power of two. -/
import Derived.Test.YtcikcinkjbbnhaaDoorD7
import Derived.Test.YtcikcinkjbbnhaaDoorY7
set_option linter.unusedSimpArgs false
set_option linter.unusedVariables false
set_option pp.deepTerms false
set_option pp.maxSteps 1500
set_option maxRecDepth 10000
set_option maxHeartbeats 4000000
namespace Go.Proofs.YtcikcinkjbbnhaaDoor.M
open Go Go.Proofs

/-- An exact number in memory: its value, and how great its exponents may be. -/
def Num (C : MH) (s : Bool) (sl : MV) (e : Int) (q : Rat) (K : Int) : Prop :=
  (s = false ∧ sl = .lit (.slice none 0 0) ∧ e = 0 ∧ q = 0) ∨
  ∃ ms, Dg C sl ms ∧ D32 ms ∧ Top ms ∧ dv ms % 2 = 1 ∧ q = sgn s * ((dv ms : Rat) * pw e) ∧ -K ≤ e ∧ (dv ms : Rat) * pw e < pw K
def NumR (H H' : MH) (u : MV) (q : Rat) (K : Int) : Prop := Old H H' ∧ ∃ s sl e, u = nv s sl e ∧ Num H' s sl e q K
theorem Num.zero (C : MH) (K : Int) : Num C false (.lit (.slice none 0 0)) 0 0 K := .inl ⟨rfl, rfl, rfl, rfl⟩
theorem Num.old {H C : MH} {s sl e q K} (h : Num H s sl e q K) (hC : Old H C) : Num C s sl e q K := by
  rcases h with h | ⟨ms, h1, h2⟩
  · exact .inl h
  · exact .inr ⟨ms, h1.old hC, h2⟩
theorem Num.mono {C : MH} {s sl e q K K'} (h : Num C s sl e q K) (hK : K ≤ K') : Num C s sl e q K' := by
  rcases h with h | ⟨ms, h1, h2, h3, h4, h5, h6, h7⟩
  · exact .inl h
  · exact .inr ⟨ms, h1, h2, h3, h4, h5, by omega, ltle h7 (pw_le hK)⟩
theorem Num.one {C : MH} {s sl e q K} (h : Num C s sl e q K) : one sl = true := by
  rcases h with ⟨_, rfl, _⟩ | ⟨ms, ⟨p, o, c, ob, rfl, _⟩, _⟩ <;> rfl
theorem dv_rat {ms : List Int} (h : D32 ms) (ht : Top ms) : (1 : Rat) ≤ (dv ms : Rat) := by
  have := ile (dv_pos h ht)
  exact_mod_cast this
theorem bp_pw (n : Nat) : (bp n : Rat) = pw ((32 * n : Nat) : Int) := by rw [pw_nat, bp_two]
/-- What the bound says of the exponent and of the number of digits. -/
theorem num_bd {ms : List Int} {e K : Int} (h : D32 ms) (ht : Top ms) (he : -K ≤ e) (hb : (dv ms : Rat) * pw e < pw K) : e < K ∧ (32 * (ms.length - 1 : Nat) : Int) < 2 * K := by
  have h1 : pw e ≤ (dv ms : Rat) * pw e := by
    have := mulr (dv_rat h ht) (pw_nn e)
    rw [Rat.one_mul] at this; exact this
  have h2 : pw (((32 * (ms.length - 1) : Nat) : Int) + e) ≤ (dv ms : Rat) * pw e := by
    rw [pw_add, ← bp_pw]
    exact mulr (ile (dv_top h ht)) (pw_nn e)
  have h3 := pw_inv (lelt h1 hb)
  have h4 := pw_inv (lelt h2 hb)
  omega
theorem sgn_nz (s : Bool) {x : Rat} (h : 0 < x) : sgn s * x ≠ 0 := by
  cases s <;> simp [sgn] <;> grind
theorem pow_rat (t : Nat) : (((2 : Int) ^ t : Int) : Rat) = pw (t : Int) := (pw_nat t).symm
/-- What trim leaves is the number. -/
theorem num_trim {H H' : MH} {u : MV} {sg : Bool} {ms : List Int} {e K : Int} {X : Rat} (hX : (dv ms : Rat) * pw e = X) (hK : -K ≤ e) (hlt : X < pw K)
    (h : Old H H' ∧ ((dv ms = 0 ∧ u = nz) ∨ ∃ (sl : MV) (t : Nat) (ms' : List Int), u = nv sg sl (e + t) ∧ one sl = true ∧ Dg H' sl ms' ∧ D32 ms' ∧ Top ms' ∧ dv ms' % 2 = 1 ∧ dv ms = dv ms' * 2 ^ t ∧ t ≤ 32 * ms.length)) : NumR H H' u (sgn sg * X) K := by
  obtain ⟨hO, ⟨h0, rfl⟩ | ⟨sl, t, ms', rfl, _, hD, h1, h2, h3, h4, _⟩⟩ := h
  · have : X = 0 := by rw [← hX, h0]; exact Rat.zero_mul _
    rw [this, Rat.mul_zero]
    exact ⟨hO, false, _, 0, rfl, Num.zero _ _⟩
  · have hv : (dv ms' : Rat) * pw (e + t) = X := by
      rw [← hX, h4, pw_add, Rat.intCast_mul, pow_rat]
      grind
    exact ⟨hO, sg, sl, e + t, rfl, .inr ⟨ms', hD, h1, h2, h3, by rw [hv], by omega, by rw [hv]; exact hlt⟩⟩
theorem Dg.setz {C : MH} {v : MV} {ms : List Int} (h : Dg C v ms) (hne : ms ≠ []) {q : Nat} {s0 : Bool} {e0 : Int} {rw : Bool} (hq : hget C q = some ⟨[bl s0, .lit (.slice none 0 0), i64 e0], rw⟩) (x : Option MO) : Dg (C.set q x) v ms := by
  obtain ⟨p, o, c, ob, h1, h2, h3, h4⟩ := h
  refine ⟨p, o, c, ob, h1, (hget_set_ne (fun e => ?_) _).trans h2, h3, h4⟩
  subst e
  rw [hq] at h2
  cases h2
  have hl : 0 < ms.length := by
    cases ms with
    | nil => exact absurd rfl hne
    | cons => simp
  have h5 := h4 0 hl
  match o, h5 with
  | 0, h5 => simp at h5
  | 1, h5 => simp at h5
  | 2, h5 => simp at h5
  | o + 3, h5 => simp at h5
theorem Num.setz {C : MH} {s sl e q K} (h : Num C s sl e q K) {r : Nat} {s0 : Bool} {e0 : Int} {rw : Bool} (hq : hget C r = some ⟨[bl s0, .lit (.slice none 0 0), i64 e0], rw⟩) (x : Option MO) : Num (C.set r x) s sl e q K := by
  rcases h with h | ⟨ms, h1, h2, h3, h4⟩
  · exact .inl h
  · exact .inr ⟨ms, h1.setz h3.1 hq x, h2, h3, h4⟩
def sgi (q : Rat) : Int := if q = 0 then 0 else if q < 0 then -1 else 1
theorem sign_spec' {H : MH} {s sl e q K} (h : Num H s sl e q K) : Spec Tryd.prog 38 [nv s sl e] H fun v H' => v = i64 (sgi q) ∧ H' = H := by
  refine Spec.scalar (enterS Tryd.func38 [.tmp 2] ?_)
  rcases h with ⟨rfl, rfl, rfl, rfl⟩ | ⟨ms, ⟨p, o, c, ob, rfl, _⟩, h2, h3, _, rfl, _⟩
  · have : sgi 0 = 0 := by simp [sgi]
    repeat' first | (with_reducible (show W _ _ _ _ _); with_reducible refine go2 ?_) | (with_reducible (show W _ _ _ _ _); with_reducible refine sg2 ?_ ?_ <;> intro _) | (with_reducible (show W _ _ _ _ _); with_reducible refine sc2 ?_ ?_ <;> intro _)
    all_goals trivial
  · have hp : 0 < (dv ms : Rat) * pw e := Rat.mul_pos (by have := dv_rat h2 h3; grind) (pw_pos e)
    have hl : ((ms.length : Int) = 0) = False := eq_false (fun h => h3.1 (List.eq_nil_of_length_eq_zero (by omega)))
    have hs : sgi (sgn s * ((dv ms : Rat) * pw e)) = if s = true then -1 else 1 := by
      unfold sgi
      rw [if_neg (sgn_nz s hp)]
      cases s
      · rw [if_neg (by simp [sgn]; grind)]; rfl
      · rw [if_pos (by simp [sgn]; grind)]; rfl
    rw [hs]
    cases s
    · repeat' first | (with_reducible (show W _ _ _ _ _); with_reducible refine go2 ?_) | (with_reducible (show W _ _ _ _ _); with_reducible refine sg2 ?_ ?_ <;> intro _) | (with_reducible (show W _ _ _ _ _); with_reducible refine sc2 ?_ ?_ <;> intro _)
      all_goals trivial
    · repeat' first | (with_reducible (show W _ _ _ _ _); with_reducible refine go2 ?_) | (with_reducible (show W _ _ _ _ _); with_reducible refine sg2 ?_ ?_ <;> intro _) | (with_reducible (show W _ _ _ _ _); with_reducible refine sc2 ?_ ?_ <;> intro _)
      all_goals trivial
theorem neg_num {H : MH} {s sl e q K} (h : Num H s sl e q K) : Spec Tryd.prog 63 [nv s sl e] H fun u H' => NumR H H' u (-q) K := by
  have hO := h.one
  refine enterS Tryd.func63 [.cell 2 34] ?_
  rcases h with ⟨rfl, rfl, rfl, rfl⟩ | ⟨ms, h1, h2, h3, h4, rfl, h5⟩
  · repeat' first | (with_reducible (show W _ _ _ _ _); with_reducible refine go2 ?_) | (with_reducible (show W _ _ _ _ _); with_reducible refine sg2 ?_ ?_ <;> intro _) | (with_reducible (show W _ _ _ _ _); with_reducible refine sc2 ?_ ?_ <;> intro _)
    all_goals (rw [show (-0 : Rat) = 0 by grind]; first | exact ⟨(Old.refl H).app _, false, _, 0, rfl, Num.zero _ _⟩ | (rename_i hh; exact absurd hh (by decide)))
  · obtain ⟨p, o, c, ob, rfl, _⟩ := id h1
    have hl : ((0 : Int) < (ms.length : Int)) = True := eq_true (by have : ms.length ≠ 0 := fun h => h3.1 (List.eq_nil_of_length_eq_zero h); omega)
    repeat' first | (with_reducible (show W _ _ _ _ _); with_reducible refine go2 ?_) | (with_reducible (show W _ _ _ _ _); with_reducible refine sg2 ?_ ?_ <;> intro _) | (with_reducible (show W _ _ _ _ _); with_reducible refine sc2 ?_ ?_ <;> intro _)
    all_goals exact ⟨(Old.refl H).app _, !s, _, e, rfl, .inr ⟨ms, h1.old ((Old.refl H).app _), h2, h3, h4, by rw [sgn_not]; grind, h5⟩⟩
theorem abs_num {H : MH} {s sl e q K} (h : Num H s sl e q K) : Spec Tryd.prog 21 [nv s sl e] H fun u H' => NumR H H' u (ab q) K := by
  have hO := h.one
  refine enterS Tryd.func21 [.cell 2 34] ?_
  rcases h with ⟨rfl, rfl, rfl, rfl⟩ | ⟨ms, h1, h2, h3, h4, rfl, h5⟩
  · repeat' first | (with_reducible (show W _ _ _ _ _); with_reducible refine go2 ?_) | (with_reducible (show W _ _ _ _ _); with_reducible refine sg2 ?_ ?_ <;> intro _) | (with_reducible (show W _ _ _ _ _); with_reducible refine sc2 ?_ ?_ <;> intro _)
    all_goals (rw [ab_zero]; exact ⟨(Old.refl H).app _, false, _, 0, rfl, Num.zero _ _⟩)
  · have hp : 0 < (dv ms : Rat) * pw e := Rat.mul_pos (by have := dv_rat h2 h3; grind) (pw_pos e)
    have hab : ab (sgn s * ((dv ms : Rat) * pw e)) = sgn false * ((dv ms : Rat) * pw e) := by
      rw [sg_ab (Rat.le_of_lt hp)]
      simp [sgn]
    rw [hab]
    obtain ⟨p, o, c, ob, rfl, _⟩ := id h1
    repeat' first | (with_reducible (show W _ _ _ _ _); with_reducible refine go2 ?_) | (with_reducible (show W _ _ _ _ _); with_reducible refine sg2 ?_ ?_ <;> intro _) | (with_reducible (show W _ _ _ _ _); with_reducible refine sc2 ?_ ?_ <;> intro _)
    all_goals exact ⟨(Old.refl H).app _, false, _, e, rfl, .inr ⟨ms, h1.old ((Old.refl H).app _), h2, h3, h4, rfl, h5⟩⟩
end Go.Proofs.YtcikcinkjbbnhaaDoor.M
