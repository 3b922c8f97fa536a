/- What round.Round answers. -/
import Derived.Test.YtamoljalficfgaaC3
set_option linter.unusedSimpArgs false
set_option linter.unusedVariables false
set_option maxRecDepth 10000
set_option maxHeartbeats 20000000
namespace Go.Proofs.Ytamoljalficfgaa.M
open Go Go.Proofs

theorem wright_in {a : W2} (ha : InW a) (n : Int) : InW (wrightM a n).1 := by
  have z : InU 0 := by constructor <;> omega
  have h : InW (wrightV a n) := by
    unfold wrightV
    by_cases h1 : n ≤ 0
    · rw [if_pos h1]; exact ha
    · rw [if_neg h1]
      by_cases h2 : 128 ≤ n
      · rw [if_pos h2]; exact ⟨z, z⟩
      · rw [if_neg h2]
        by_cases h3 : 64 ≤ n
        · rw [if_pos h3]; exact ⟨z, shr_inU ha.1 _⟩
        · rw [if_neg h3]; refine ⟨?_, ?_⟩; exact shr_inU ha.1 _; dsimp only; exact bits_inU _ _ _
  unfold wrightM
  by_cases h1 : n ≤ 0
  · rw [if_pos h1]; exact ha
  · rw [if_neg h1]; exact h
theorem wleft_in {a : W2} (ha : InW a) (n : Int) : InW (wleftM a n) := by
  have z : InU 0 := by constructor <;> omega
  unfold wleftM
  by_cases h1 : n ≤ 0
  · rw [if_pos h1]; exact ha
  · rw [if_neg h1]
    by_cases h2 : 128 ≤ n
    · rw [if_pos h2]; exact ⟨z, z⟩
    · rw [if_neg h2]
      by_cases h3 : 64 ≤ n
      · rw [if_pos h3]; exact ⟨shl_inU _ _, z⟩
      · rw [if_neg h3]; refine ⟨?_, ?_⟩; dsimp only; exact bits_inU _ _ _; exact shl_inU _ _

def clampM (e : Int) : Int := if -100000 < (if 100000 < e then 100000 else e) then (if 100000 < e then 100000 else e) else -100000
def round1 (w : W2) (drop : Int) (more : Bool) : W2 × Bool :=
  if 0 < drop then
    let r := wrightM w drop
    let s := splitM w drop r.2
    (if s.1 && (s.2 || more || decide (bits .and .u64 r.1.2 1 = 1)) then (waddM r.1 (0, 1)).1 else r.1, s.1 || s.2 || more)
  else if drop < 0 then (wleftM w (IntKind.i64.wrap (0 - drop)), more) else (w, more)
def round2 (m : Int) (exp : Int) : Int × Int := if m = 9007199254740992 then (shrV .u64 m 1, IntKind.i64.wrap (exp + 1)) else (m, exp)
def round3 (neg : Bool) (m exp : Int) (lost tiny : Bool) : Int × Int :=
  let f := if lost then (if tiny then bits .or .u8 (bits .or .u8 0 1) 2 else bits .or .u8 0 1) else 0
  if m < 4503599627370496 then (makeM neg 0 m, f) else if 2047 ≤ IntKind.i64.wrap (exp + 1075) then (makeM neg 2047 0, bits .or .u8 (bits .or .u8 f 4) 1) else (makeM neg (IntKind.i64.wrap (exp + 1075)) m, f)
def roundM (neg : Bool) (w : W2) (exp0 : Int) (more : Bool) : Int × Int :=
  let exp := clampM exp0
  if wzeroM w then (makeM neg 0 0, if more then 3 else 0) else
    let drop0 := IntKind.i64.wrap (wlenM w - 53)
    let tiny := decide (IntKind.i64.wrap (exp + wlenM w) < -1021)
    let drop := if IntKind.i64.wrap (exp + drop0) < -1074 then IntKind.i64.wrap (-1074 - exp) else drop0
    let u := round1 w drop more
    let v := round2 u.1.2 (IntKind.i64.wrap (exp + drop))
    round3 neg v.1 v.2 u.2 tiny
/-- An equation that the walk does not see. -/
def Is {T : Type} (x y : T) : Prop := x = y
theorem round_spec (neg : Bool) {w : W2} (hw : InW w) (exp : Int) (more : Bool) (H : MH) : Spec Try.prog 54 [bl neg, wd w, i64 exp, bl more] H fun v H' => v = .tup [u64 (roundM neg w exp more).1, u8 (roundM neg w exp more).2] ∧ H' = H := by
  have hl := wlen_spec hw
  have hr := fun n => wright_in hw n
  have hb : bits .and .u64 9007199254740992 1 = 0 := by decide
  have hz : InW (0, 1) := by refine ⟨⟨?_, ?_⟩, ⟨?_, ?_⟩⟩ <;> simp
  refine Spec.scalar (enterS Try.func54 [.tmp 8, .tmp 9] ?_)
  obtain ⟨e, he⟩ : ∃ e, Is e (clampM exp) := ⟨_, rfl⟩
  repeat' first | (with_reducible (show W _ _ _ _ _); with_reducible refine go ?_) | (with_reducible (show W _ _ _ _ _); with_reducible refine sg ?_ ?_ <;> intro _) | (with_reducible (show CallK _ _ _ _ _ _ _ _ _ _ _); with_reducible refine ce (wzero_spec _ _) ?_)
  refine sc ?_ ?_ <;> intro hzero
  · repeat' first | (with_reducible (show W _ _ _ _ _); with_reducible refine go ?_) | (with_reducible (show W _ _ _ _ _); with_reducible refine sg ?_ ?_ <;> intro _) | (with_reducible (show W _ _ _ _ _); with_reducible refine sc ?_ ?_ <;> intro _) | (with_reducible (show CallK _ _ _ _ _ _ _ _ _ _ _); with_reducible refine ce (make_spec _ _ _ _) ?_)
    all_goals simp [roundM, *]
  repeat' first | (with_reducible (show W _ _ _ _ _); with_reducible refine go ?_) | (with_reducible (show W _ _ _ _ _); with_reducible refine sg ?_ ?_ <;> intro _) | (with_reducible (show CallK _ _ _ _ _ _ _ _ _ _ _); with_reducible refine ce (hl _) ?_)
  refine W_cut (fun ρ H' => ρ 0 = bl neg ∧ ρ 2 = i64 (clampM exp) ∧ ρ 3 = bl more ∧ ρ 5 = .ptr H.length 0 ∧ ρ 10 = i64 (if IntKind.i64.wrap (clampM exp + IntKind.i64.wrap (wlenM w - 53)) < -1074 then IntKind.i64.wrap (-1074 - clampM exp) else IntKind.i64.wrap (wlenM w - 53)) ∧
    ρ 11 = bl (decide (IntKind.i64.wrap (clampM exp + wlenM w) < -1021)) ∧ H' = H ++ [some ⟨[u64 w.1, u64 w.2], true⟩]) ?_ ?_
  · repeat' first | (with_reducible (show W _ _ _ _ _); with_reducible refine go ?_) | (with_reducible (show W _ _ _ _ _); with_reducible refine sg ?_ ?_ <;> intro _) | (with_reducible (show W _ _ _ _ _); with_reducible refine sc ?_ ?_ <;> intro _)
    all_goals (simp [clampM, *]; exact decide_eq_decide.2 Iff.rfl)
  rintro ρ H' ⟨h0, h2, h3, h5, h10, h11, rfl⟩
  have goal : roundM neg w exp more = (let d := (if IntKind.i64.wrap (clampM exp + IntKind.i64.wrap (wlenM w - 53)) < -1074 then IntKind.i64.wrap (-1074 - clampM exp) else IntKind.i64.wrap (wlenM w - 53)); let u := round1 w d more
      let v := round2 u.1.2 (IntKind.i64.wrap (clampM exp + d)); round3 neg v.1 v.2 u.2 (decide (IntKind.i64.wrap (clampM exp + wlenM w) < -1021))) := by
    unfold roundM
    rw [if_neg hzero]
  rw [goal]
  clear goal hl he
  generalize (if IntKind.i64.wrap (clampM exp + IntKind.i64.wrap (wlenM w - 53)) < -1074 then IntKind.i64.wrap (-1074 - clampM exp) else IntKind.i64.wrap (wlenM w - 53)) = d at h10 ⊢
  generalize decide (IntKind.i64.wrap (clampM exp + wlenM w) < -1021) = tiny at h11 ⊢
  generalize clampM exp = e at h2 ⊢
  dsimp only
  repeat' first | (with_reducible (show W _ _ _ _ _); with_reducible refine go ?_) | (with_reducible (show W _ _ _ _ _); with_reducible refine sg ?_ ?_ <;> intro _)
  refine W_cut (fun ρ H' => ρ 0 = bl neg ∧ ρ 2 = i64 e ∧ ρ 5 = .ptr H.length 0 ∧ ρ 10 = i64 d ∧ ρ 11 = bl tiny ∧ ρ 12 = bl (round1 w d more).2 ∧ ∃ J, H' = H ++ some ⟨[u64 (round1 w d more).1.1, u64 (round1 w d more).1.2], true⟩ :: J) ?_ ?_
  · repeat' first | (with_reducible (show W _ _ _ _ _); with_reducible refine go ?_) | (with_reducible (show W _ _ _ _ _); with_reducible refine sg ?_ ?_ <;> intro _) | (with_reducible (show W _ _ _ _ _); with_reducible refine sc ?_ ?_ <;> intro _) | (with_reducible (show CallK _ _ _ _ _ _ _ _ _ _ _); with_reducible refine ce (wright_spec _ _ _) ?_) | (with_reducible (show CallK _ _ _ _ _ _ _ _ _ _ _); with_reducible refine ce (split_spec _ _ _ _) ?_) | (with_reducible (show CallK _ _ _ _ _ _ _ _ _ _ _); with_reducible refine ce (wadd_spec (hr _) hz _) ?_) | (with_reducible (show CallK _ _ _ _ _ _ _ _ _ _ _); with_reducible refine ce (wleft_spec _ _ _) ?_)
    all_goals simp [round1, -Int.zero_sub, *]
  clear h0 h2 h3 h5 h10 h11
  rintro ρ H' ⟨h0, h2, h5, h10, h11, h12, J, rfl⟩
  generalize round1 w d more = u at h12 ⊢
  obtain ⟨⟨u1, u2⟩, lost⟩ := u
  dsimp only at h12 ⊢
  have e1 : hget (H ++ some ⟨[u64 u1, u64 u2], true⟩ :: J) H.length = some ⟨[u64 u1, u64 u2], true⟩ := hget_new'
  repeat' first | (with_reducible (show W _ _ _ _ _); with_reducible refine go ?_) | (with_reducible (show W _ _ _ _ _); with_reducible refine sg ?_ ?_ <;> intro _)
  refine W_cut (fun ρ H' => ρ 0 = bl neg ∧ ρ 11 = bl tiny ∧ ρ 12 = bl lost ∧ ρ 16 = u64 (round2 u2 (IntKind.i64.wrap (e + d))).1 ∧ ρ 2 = i64 (round2 u2 (IntKind.i64.wrap (e + d))).2 ∧ ∃ J, H' = H ++ J) ?_ ?_
  · repeat' first | (with_reducible (show W _ _ _ _ _); with_reducible refine go ?_) | (with_reducible (show W _ _ _ _ _); with_reducible refine sg ?_ ?_ <;> intro _) | (with_reducible (show W _ _ _ _ _); with_reducible refine sc ?_ ?_ <;> intro _)
    all_goals simp [round2, *]
  clear h0 h2 h5 h10 h11 h12 e1
  rintro ρ H' ⟨h0, h11, h12, h16, h2, J', rfl⟩
  generalize round2 u2 (IntKind.i64.wrap (e + d)) = v at h16 h2 ⊢
  obtain ⟨m, x⟩ := v
  dsimp only at h16 h2 ⊢
  repeat' first | (with_reducible (show W _ _ _ _ _); with_reducible refine go ?_) | (with_reducible (show W _ _ _ _ _); with_reducible refine sg ?_ ?_ <;> intro _) | (with_reducible (show W _ _ _ _ _); with_reducible refine sc ?_ ?_ <;> intro _) | (with_reducible (show CallK _ _ _ _ _ _ _ _ _ _ _); with_reducible refine ce (make_spec _ _ _ _) ?_)
  all_goals simp [round3, *]
end Go.Proofs.Ytamoljalficfgaa.M
