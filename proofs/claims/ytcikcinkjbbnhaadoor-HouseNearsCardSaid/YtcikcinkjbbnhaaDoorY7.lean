/- What operations answer, in one form: near a fraction, in order. -/
import Derived.Test.YtcikcinkjbbnhaaDoorY6
set_option linter.unusedSimpArgs false
set_option linter.unusedVariables false
set_option maxRecDepth 10000
set_option maxHeartbeats 400000
namespace Go.Proofs.YtcikcinkjbbnhaaDoor.M
open Go Go.Proofs

/-- A number. -/
structure Fn (b : Int) : Prop where
  inu : InU b
  fin : finiteM b = true
theorem Fn.flip {b : Int} (h : Fn b) : Fn (flipM b) := ⟨flip_in b, by rw [flip_fin h.inu]; exact h.fin⟩
theorem Fn.mg0 {b : Int} (h : Fn b) : 0 ≤ mg b := mg_nn h.inu
theorem Fn.ab {b : Int} (h : Fn b) : ab (val b) = mg b := ab_val h.inu
theorem Fn.rep {b : Int} (h : Fn b) : Rep (mg b) := rep_mg h.inu h.fin
theorem Fn.zero : Fn 0 := ⟨zero_in, by decide⟩
theorem mg_z : mg 0 = 0 := (mg_zero zero_in (by decide)).2 (by decide)
theorem val_z : val 0 = 0 := (val_zero zero_in (by decide)).2 (by decide)
/-- r is x, rounded. -/
structure Fl (x : Rat) (r : Int) : Prop where
  fn : Fn r
  up : ∀ y, Rep y → ab x ≤ y → mg r ≤ y
  dn : ∀ y, Rep y → y ≤ ab x → y ≤ mg r
  err : ab (val r - x) ≤ pw (-53) * ab x + pw (-1075)
  rel : pw (-1022) ≤ ab x → ab (val r - x) ≤ pw (-53) * ab x
  half : ∀ k : Int, ab x < pw k → ab (val r - x) ≤ pw (k - 54) ∨ ab (val r - x) ≤ pw (-1075)
  sign : val r = mg r ∧ 0 ≤ x ∨ val r = -mg r ∧ x ≤ 0 ∨ x = 0
theorem sgn_cases (s : Bool) : sgn s = 1 ∨ sgn s = -1 := by cases s <;> simp [sgn]
theorem Rnd.err {X ρ : Rat} (h : Rnd X ρ) (hX : 0 ≤ X) : M.ab (ρ - X) ≤ pw (-53) * X + pw (-1075) := by
  have h1 := mulnn (pw_nn (-53)) hX
  have h2 := pw_nn (-1075)
  rcases h.near with h | h <;> grind
theorem RdOf.toFl {s : Bool} {x : Rat} {r : Int × Int} {ρ : Rat} (h : RdOf s (ab x) r ρ) (hx : sgn s * ab x = x) (hb : ab x ≤ pw 1023) : Fl x r.1 := by
  have hlt : ρ < pw 1024 := lelt (h.rn.hi _ (rep_pw (by decide)) hb) (pw_lt (by decide))
  obtain ⟨f1, f2, f3⟩ := h.fin hlt
  have hv : M.val r.1 = sgn s * ρ := by unfold M.val; rw [f2, f3]
  have hd : M.val r.1 - x = sgn s * (ρ - ab x) := by
    rw [hv]
    have : ∀ s a b c : Rat, s * b = c → s * a - c = s * (a - b) := fun s a b c e => by grind
    exact this _ _ _ _ hx
  refine ⟨⟨h.inu, f1⟩, fun y hy hxy => by rw [f3]; exact h.rn.hi y hy hxy, fun y hy hxy => by rw [f3]; exact h.rn.lo y hy hxy, ?_, fun hX => ?_, fun k hk => ?_, ?_⟩
  · rw [hd, ab_sgn]; exact h.rn.err (ab_nn x)
  · rw [hd, ab_sgn]; exact h.rn.rel hX
  · rw [hd, ab_sgn]; exact h.rn.half k hk
  · have := ab_nn x
    rw [hv, f3]
    rcases sgn_cases s with e | e <;> rw [e] at hx ⊢
    · left; constructor <;> grind
    · right; left; constructor <;> grind
theorem Fl.le {x y : Rat} {r : Int} (h : Fl x r) (hy : Rep y) (hxy : ab x ≤ y) : mg r ≤ y := h.up y hy hxy
theorem val_ab {b : Int} (h : Fn b) : val b = mg b ∨ val b = -mg b := by
  unfold val
  rcases sgn_cases (negM b) with e | e <;> rw [e]
  · left; grind
  · right; grind
theorem ab_le_mg {b : Int} (h : Fn b) : -mg b ≤ val b ∧ val b ≤ mg b := by
  have := h.mg0
  rcases val_ab h with e | e <;> rw [e] <;> constructor <;> grind
theorem fl_mul {a b : Int} (ha : Fn a) (hb : Fn b) (h : mg a * mg b ≤ pw 1023) : Fl (val a * val b) (mulM a b).1 := by
  obtain ⟨ρ, hρ⟩ := mul_val ha.inu hb.inu ha.fin hb.fin
  have e : ab (val a * val b) = mg a * mg b := by rw [ab_mul, ha.ab, hb.ab]
  refine RdOf.toFl (s := !(negM a == negM b)) (by rw [e]; exact hρ) ?_ (by rw [e]; exact h)
  rw [e]
  have : sgn (!(negM a == negM b)) = sgn (negM a) * sgn (negM b) := sgn_xor _ _
  rw [this]
  unfold val
  grind
theorem fl_add {a b : Int} (ha : Fn a) (hb : Fn b) (h : ab (val a + val b) ≤ pw 1023) : Fl (val a + val b) (addM a b).1 := by
  obtain ⟨s, ρ, hρ, hs⟩ := add_val ha.inu hb.inu ha.fin hb.fin
  exact hρ.toFl hs h
theorem fl_sub {a b : Int} (ha : Fn a) (hb : Fn b) (h : ab (val a - val b) ≤ pw 1023) : Fl (val a - val b) (addM a (flipM b)).1 := by
  obtain ⟨s, ρ, hρ, hs⟩ := sub_val ha.inu hb.inu ha.fin hb.fin
  exact hρ.toFl hs h
theorem fl_scale {a n : Int} (ha : Fn a) (hn : -1900 ≤ n ∧ n ≤ 1900) (h : mg a * pw n ≤ pw 1023) : Fl (val a * pw n) (scaleM a n).1 := by
  obtain ⟨ρ, hρ⟩ := scale_val ha.inu ha.fin hn
  have e : ab (val a * pw n) = mg a * pw n := by rw [ab_mul, ha.ab, ab_of (pw_nn n)]
  refine RdOf.toFl (s := negM a) (by rw [e]; exact hρ) ?_ (by rw [e]; exact h)
  rw [e]
  unfold val
  grind
theorem fl_div {a b : Int} (ha : Fn a) (hb : Fn b) (hz : mg b ≠ 0) (h : mg a / mg b ≤ pw 1023) : Fl (val a / val b) (divM a b).1 := by
  have zb : ¬ kindM b = 1 := fun e => hz ((mg_zero hb.inu hb.fin).2 e)
  obtain ⟨ρ, hρ⟩ := div_val ha.inu hb.inu ha.fin hb.fin zb
  have hbp : 0 < mg b := mg_pos hb.inu hb.fin zb
  have e0 : val a / val b = sgn (negM a != negM b) * (mg a / mg b) := by
    have hvb : val b ≠ 0 := fun e => zb ((val_zero hb.inu hb.fin).1 e)
    have h1 : val a / val b * val b = val a := Rat.div_mul_cancel hvb
    have h2 : mg a / mg b * mg b = mg a := Rat.div_mul_cancel hz
    have h3 : sgn (negM a != negM b) * (mg a / mg b) * val b = val a := by
      rw [sgn_xor]
      have h4 := sgn_sq (negM b)
      unfold val
      have : ∀ s t q m n : Rat, t * t = 1 → q * m = n → s * t * q * (t * m) = s * n := fun s t q m n e1 e2 => by
        rw [← e2]
        have : s * t * q * (t * m) = t * t * (s * (q * m)) := by grind
        rw [this, e1]; grind
      exact this _ _ _ _ _ h4 h2
    have : ∀ x y c : Rat, c ≠ 0 → x * c = y * c → x = y := fun x y c hc e => by
      have : (x - y) * c = 0 := by grind
      rcases Rat.mul_eq_zero.1 this with h | h
      · grind
      · exact absurd h hc
    exact this _ _ _ hvb (h1.trans h3.symm)
  have hnn : 0 ≤ mg a / mg b := div_nn ha.mg0 hbp
  have e : ab (val a / val b) = mg a / mg b := by rw [e0, ab_sgn, ab_of hnn]
  refine RdOf.toFl (s := negM a != negM b) (by rw [e]; exact hρ) ?_ (by rw [e]; exact h)
  rw [e, e0]

/-! ### Which of two is greater without its sign -/
theorem ab_ord {a b : Int} (ha : Fn a) (hb : Fn b) (h : absM a ≤ absM b) : mg a ≤ mg b := by
  have h1 := ha.inu
  have h2 := hb.inu
  have a1 := h1.1
  have a2 := h1.2
  have b1 := h2.1
  have b2 := h2.2
  rw [absM_eq h1, absM_eq h2] at h
  have pa := parts53 h1
  have pb := parts53 h2
  have qa := parts_eq h1 ha.fin
  have qb := parts_eq h2 hb.fin
  rw [expM_eq h1] at qa
  rw [expM_eq h2] at qb
  have hord : (partsM a).1 = 0 ∨ (partsM a).2 = (partsM b).2 ∧ (partsM a).1 ≤ (partsM b).1 ∨ (partsM a).2 < (partsM b).2 ∧ 4503599627370496 ≤ (partsM b).1 := by
    rw [qa, qb]
    repeat' split
    all_goals (dsimp only; omega)
  unfold mg
  rcases hord with h0 | ⟨e, hle⟩ | ⟨hlt, hbig⟩
  · rw [h0, Rat.intCast_zero, Rat.zero_mul]
    exact mulnn (ile (a := 0) pb.1) (pw_nn _)
  · rw [e]
    exact mulr (ile hle) (pw_nn _)
  · have h3 : (partsM a).1 ≤ 2 * (partsM b).1 := by omega
    have h4 : pw ((partsM a).2 + 1) ≤ pw (partsM b).2 := pw_le (by omega)
    rw [pw_succ] at h4
    have h5 : ((partsM a).1 : Rat) ≤ ((2 * (partsM b).1 : Int) : Rat) := ile h3
    have h6 : ((2 * (partsM b).1 : Int) : Rat) = 2 * ((partsM b).1 : Rat) := by push_cast; rfl
    rw [h6] at h5
    have h7 := mulr h5 (pw_nn (partsM a).2)
    have h8 := mull h4 (show 0 ≤ ((partsM b).1 : Rat) from ile (a := 0) pb.1)
    exact Rat.le_trans h7 (Rat.le_trans (reqle (by grind)) h8)
theorem abs_fn {a : Int} (ha : Fn a) : Fn (absM a) ∧ mg (absM a) = mg a := by
  have h1 := ha.inu
  have a1 := h1.1
  have a2 := h1.2
  have hi := abs_in a
  have hf : finiteM (absM a) = true := by
    have := ha.fin
    unfold finiteM at this ⊢
    rw [expM_abs h1]; exact this
  refine ⟨⟨hi, hf⟩, ?_⟩
  unfold mg
  rw [parts_eq hi hf, parts_eq h1 ha.fin, expM_abs h1, absM_eq h1]
  have e1 : a % 9223372036854775808 % 9223372036854775808 = a % 9223372036854775808 := by omega
  have e2 : a % 9223372036854775808 % 4503599627370496 = a % 4503599627370496 := by omega
  rw [e1, e2]

/-! ### The power of two beneath a number -/
theorem powE_val : ∀ (f : Nat) (n e : Int), InU n → 1 ≤ n → n < 2 ^ f → -3000 ≤ e → e + f ≤ 3000 → pw (powE f n e) ≤ (n : Rat) * pw e ∧ (n : Rat) * pw e < pw (powE f n e + 1) ∧ e ≤ powE f n e ∧ powE f n e ≤ e + f
  | 0, n, e, _, h1, h2, _, _ => by simp at h2; omega
  | f + 1, n, e, hi, h1, h2, h3, h4 => by
    unfold powE
    by_cases h : 1 < n
    · rw [if_pos h, shr1 hi, wrap_i64 (by omega)]
      have hp : (2 : Int) ^ (f + 1) = 2 ^ f * 2 := Int.pow_succ 2 f
      obtain ⟨g1, g2, g3, g4⟩ := powE_val f (n / 2) (e + 1) ⟨by omega, by have := hi.2; omega⟩ (by omega) (by omega) (by omega) (by omega)
      rw [pw_succ e] at g1 g2
      have h5 : ((2 * (n / 2) : Int) : Rat) ≤ (n : Rat) := ile (by omega)
      have h6 : ((2 * (n / 2) : Int) : Rat) = 2 * ((n / 2 : Int) : Rat) := by rw [Rat.intCast_mul]; rfl
      have h7 := mulr h5 (pw_nn e)
      -- the next power of two is a whole number
      obtain ⟨z, hz⟩ : ∃ z : Int, pw (powE f (n / 2) (e + 1) + 1) = (z : Rat) * pw (e + 1) := by
        refine ⟨2 ^ (powE f (n / 2) (e + 1) + 1 - (e + 1)).toNat, ?_⟩
        rw [← pw_int (by omega), ← pw_add]; congr 1; omega
      have hzn : n / 2 < z := by
        rw [hz, ← pw_succ] at g2
        exact ilt' (mulcl g2 (pw_pos _))
      refine ⟨?_, ?_, by omega, by omega⟩
      · refine Rat.le_trans g1 (Rat.le_trans (reqle ?_) h7)
        rw [h6]; grind
      · have h8 : (n : Rat) < ((2 * z : Int) : Rat) := ilt (by omega)
        have h9 := mulrl h8 (pw_pos e)
        have e9 : ((2 * z : Int) : Rat) * pw e = pw (powE f (n / 2) (e + 1) + 1) := by
          rw [hz, pw_succ, Rat.intCast_mul]
          have : ((2 : Int) : Rat) = 2 := rfl
          rw [this]; grind
        rw [← e9]; exact h9
    · rw [if_neg h]
      have : n = 1 := by omega
      subst this
      have e1 : (((1 : Int) : Rat)) * pw e = pw e := by simp
      rw [e1, pw_succ]
      have := pw_pos e
      refine ⟨Rat.le_refl, by grind, by omega, by omega⟩
end Go.Proofs.YtcikcinkjbbnhaaDoor.M
