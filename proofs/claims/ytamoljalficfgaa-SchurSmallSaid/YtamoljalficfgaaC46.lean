/- What a quotient is: math/bits.Div64, soft.Div, as functions of the numbers. -/
import Derived.Test.YtamoljalficfgaaC37
set_option linter.unusedSimpArgs false
set_option linter.unusedVariables false
set_option pp.deepTerms false
set_option pp.maxSteps 1500
set_option maxRecDepth 10000
set_option maxHeartbeats 8000000
namespace Go.Proofs.Ytamoljalficfgaa.M
open Go Go.Proofs

abbrev wu (x : Int) : Int := IntKind.u64.wrap x
/-- An estimate put right: both halves of the divisor, the next digit; the estimate and what it leaves. -/
def adjM (y1 y0 u : Int) : Nat → Int × Int → Int
  | 0, s => s.1
  | f + 1, s => if 4294967296 ≤ s.1 ∨ wu (wu (4294967296 * s.2) + u) < wu (s.1 * y0) then (if 4294967296 ≤ wu (s.2 + y1) then wu (s.1 - 1) else adjM y1 y0 u f (wu (s.1 - 1), wu (s.2 + y1))) else s.1
def dY (y : Int) : Int := shlV .u64 y (shN y)
def dY0 (y : Int) : Int := bits .and .u64 (dY y) 4294967295
def du (hi lo y : Int) : Int := bits .or .u64 (shlV .u64 hi (shN y)) (shrV .u64 lo (wu (64 - shN y)))
def dn1 (lo y : Int) : Int := shrV .u64 (shlV .u64 lo (shN y)) 32
def dn0 (lo y : Int) : Int := bits .and .u64 (shlV .u64 lo (shN y)) 4294967295
def est (u y1 : Int) : Int × Int := (wu (u.tdiv y1), wu (u - wu (wu (u.tdiv y1) * y1)))
def dq1 (hi lo y : Int) : Int := adjM (ynM y) (dY0 y) (dn1 lo y) 2 (est (du hi lo y) (ynM y))
def du2 (hi lo y q1 : Int) : Int := wu (wu (wu (du hi lo y * 4294967296) + dn1 lo y) - wu (q1 * dY y))
def dq0 (hi lo y q1 : Int) : Int := adjM (ynM y) (dY0 y) (dn0 lo y) 2 (est (du2 hi lo y q1) (ynM y))
def div64M (hi lo y : Int) : Int × Int := if hi = 0 then (wu (lo.tdiv y), lo.tmod y) else
  (wu (wu (dq1 hi lo y * 4294967296) + dq0 hi lo y (dq1 hi lo y)), shrV .u64 (wu (wu (wu (du2 hi lo y (dq1 hi lo y) * 4294967296) + dn0 lo y) - wu (dq0 hi lo y (dq1 hi lo y) * dY y))) (shN y))

theorem div64_spec {hi lo y : Int} (hhi : InU hi) (hlo : InU lo) (hy : InU y) (hlt : hi < y) (H : MH) : Spec Try.prog 97 [u64 hi, u64 lo, u64 y] H fun v H' => v = .tup [u64 (div64M hi lo y).1, u64 (div64M hi lo y).2] ∧ H' = H := by
  have h1 := hhi.1
  have y0 : (y = 0) = False := eq_false (by omega)
  have yl : (y ≤ hi) = False := eq_false (by omega)
  have hshr : ∀ x, ¬ IntKind.u64.wrap x < 0 := fun x => by have := (wrap_inU x).1; omega
  have hn := norm_in hy (by omega)
  have hq : (shrV .u64 (shlV .u64 y (IntKind.u64.wrap (IntKind.i64.wrap (64 - lenM y)))) 32 = 0) = False := eq_false (by omega)
  refine Spec.scalar (enterS Try.func97 [.tmp 6, .tmp 7] ?_)
  repeat' first | (with_reducible (show W _ _ _ _ _); with_reducible refine go2 ?_) | (with_reducible (show W _ _ _ _ _); with_reducible refine sg2 ?_ ?_ <;> intro _) | (with_reducible (show W _ _ _ _ _); with_reducible refine sc2 ?_ ?_ <;> intro _) | (with_reducible (show CallK _ _ _ _ _ _ _ _ _ _ _); with_reducible refine ce2 (lz_spec hy _) ?_) | (with_reducible (show W _ _ (.code (.region 6 _ true) :: _) _ _); with_reducible refine W_draw [(0, []), (1, []), (2, []), (3, []), (4, []), (5, []), (6, []), (7, [])] [] (by kernel_rfl) ?_)
  · rename_i h0
    simp [div64M, h0]
  rename_i h0
  have hnY : 2147483648 ≤ ynM y ∧ ynM y < 4294967296 := hn
  have hqY : (ynM y = 0) = False := hq
  have hS : ¬ shN y < 0 := hshr _
  have hrem : ∀ U, InU U → 0 ≤ (est U (ynM y)).2 ∧ (est U (ynM y)).2 < 4294967296 := fun U hU => rem_in hU hnY
  have hU1 : InU (du hi lo y) := bits_inU _ _ _
  obtain ⟨Q1, hQ1⟩ : ∃ Q1, dq1 hi lo y = Q1 := ⟨_, rfl⟩
  refine W_for (fun j ρ H' => ∃ (q rh : Int), 0 ≤ rh ∧ rh < 4294967296 ∧ 4294967296 ≤ rh + j * 2147483648 ∧ adjM (ynM y) (dY0 y) (dn1 lo y) j (q, rh) = Q1 ∧ ρ 2 = u64 (dY y) ∧ ρ 8 = u64 (shN y) ∧ ρ 9 = u64 (ynM y) ∧ ρ 10 = u64 (dY0 y) ∧ ρ 11 = u64 (du hi lo y) ∧ ρ 13 = u64 (dn1 lo y) ∧ ρ 14 = u64 (dn0 lo y) ∧ ρ 15 = u64 q ∧ ρ 16 = u64 rh ∧ H' = H) 2 ?_ ?_
  · have := hrem _ hU1
    exact ⟨_, _, this.1, this.2, by omega, hQ1, rfl, rfl, rfl, rfl, rfl, rfl, rfl, rfl, rfl, rfl⟩
  clear hn hq
  rintro j ρ H' ⟨q, rh, hr0, hr1, hr2, hadj, h2, h8, h9, h10, h11, h13, h14, h15, h16, rfl⟩
  have hY1 := hnY.1
  have hY2 := hnY.2
  have ew : IntKind.u64.wrap (rh + ynM y) = rh + ynM y := by rw [wrap_u64]; omega
  obtain ⟨f, rfl⟩ : ∃ f, j = f + 1 := ⟨j - 1, by omega⟩
  unfold adjM at hadj
  dsimp only at hadj
  rw [show wu (rh + ynM y) = rh + ynM y from ew] at hadj
  repeat' first | (with_reducible (show W _ _ _ _ _); with_reducible refine go2 ?_) | (with_reducible (show W _ _ _ _ _); with_reducible refine sg2 ?_ ?_ <;> intro _) | (with_reducible (show W _ _ _ _ _); with_reducible refine sc2 ?_ ?_ <;> intro _) | (with_reducible (show W _ _ (.code (.region 6 _ true) :: _) _ _); with_reducible refine W_draw [(0, []), (1, []), (2, []), (3, []), (4, []), (5, []), (6, []), (7, [])] [] (by kernel_rfl) ?_)
  all_goals first
    | rw [if_pos (show 4294967296 ≤ q ∨ wu (wu (4294967296 * rh) + dn1 lo y) < wu (q * dY0 y) from .inl (by assumption))] at hadj
    | rw [if_pos (show 4294967296 ≤ q ∨ wu (wu (4294967296 * rh) + dn1 lo y) < wu (q * dY0 y) from .inr (by assumption))] at hadj
    | rw [if_neg (show ¬ (4294967296 ≤ q ∨ wu (wu (4294967296 * rh) + dn1 lo y) < wu (q * dY0 y)) from fun h => h.elim (by assumption) (by assumption))] at hadj
  all_goals try first
    | rw [if_pos (show 4294967296 ≤ rh + ynM y by assumption)] at hadj
    | rw [if_neg (show ¬ 4294967296 ≤ rh + ynM y by assumption)] at hadj
  all_goals first
    | exact ⟨f, by omega, _, _, by omega, by omega, by omega, hadj, rfl, rfl⟩
    | rw [← hQ1] at hadj
  all_goals obtain ⟨Q0, hQ0⟩ : ∃ Q0, dq0 hi lo y (dq1 hi lo y) = Q0 := ⟨_, rfl⟩
  all_goals have hU2 := hrem (du2 hi lo y (dq1 hi lo y)) (wrap_inU _)
  all_goals refine W_for (fun j ρ H'' => ∃ (q rh : Int), 0 ≤ rh ∧ rh < 4294967296 ∧ 4294967296 ≤ rh + j * 2147483648 ∧ adjM (ynM y) (dY0 y) (dn0 lo y) j (q, rh) = Q0 ∧ ρ 2 = u64 (dY y) ∧ ρ 8 = u64 (shN y) ∧ ρ 9 = u64 (ynM y) ∧ ρ 10 = u64 (dY0 y) ∧ ρ 14 = u64 (dn0 lo y) ∧ ρ 15 = u64 (dq1 hi lo y) ∧ ρ 17 = u64 (du2 hi lo y (dq1 hi lo y)) ∧ ρ 18 = u64 q ∧ ρ 16 = u64 rh ∧ H'' = H') 2 ?_ ?_
  all_goals try
    (refine ⟨(est (du2 hi lo y (dq1 hi lo y)) (ynM y)).1, (est (du2 hi lo y (dq1 hi lo y)) (ynM y)).2, hU2.1, hU2.2, by omega, hQ0, h2, h8, h9, h10, h14, ?_, ?_, ?_, ?_, rfl⟩
     all_goals (rw [← hadj]; first | exact h15 | rfl))
  all_goals clear h2 h8 h9 h10 h11 h13 h14 h15 h16 ew hr0 hr1 hr2 hadj
  all_goals rintro j ρ H'' ⟨q, rh, hr0, hr1, hr2, hadj, h2, h8, h9, h10, h14, h15, h17, h18, h16, rfl⟩
  all_goals have ew : IntKind.u64.wrap (rh + ynM y) = rh + ynM y := by rw [wrap_u64]; omega
  all_goals obtain ⟨f, rfl⟩ : ∃ f, j = f + 1 := ⟨j - 1, by omega⟩
  all_goals unfold adjM at hadj
  all_goals dsimp only at hadj
  all_goals rw [show wu (rh + ynM y) = rh + ynM y from ew] at hadj
  all_goals (repeat' first | (with_reducible (show W _ _ _ _ _); with_reducible refine go2 ?_) | (with_reducible (show W _ _ _ _ _); with_reducible refine sg2 ?_ ?_ <;> intro _) | (with_reducible (show W _ _ _ _ _); with_reducible refine sc2 ?_ ?_ <;> intro _) | (with_reducible (show W _ _ (.code (.region 6 _ true) :: _) _ _); with_reducible refine W_draw [(0, []), (1, []), (2, []), (3, []), (4, []), (5, []), (6, []), (7, [])] [] (by kernel_rfl) ?_))
  all_goals first
    | rw [if_pos (show 4294967296 ≤ q ∨ wu (wu (4294967296 * rh) + dn0 lo y) < wu (q * dY0 y) from .inl (by assumption))] at hadj
    | rw [if_pos (show 4294967296 ≤ q ∨ wu (wu (4294967296 * rh) + dn0 lo y) < wu (q * dY0 y) from .inr (by assumption))] at hadj
    | rw [if_neg (show ¬ (4294967296 ≤ q ∨ wu (wu (4294967296 * rh) + dn0 lo y) < wu (q * dY0 y)) from fun h => h.elim (by assumption) (by assumption))] at hadj
  all_goals try first
    | rw [if_pos (show 4294967296 ≤ rh + ynM y by assumption)] at hadj
    | rw [if_neg (show ¬ 4294967296 ≤ rh + ynM y by assumption)] at hadj
  all_goals first
    | exact ⟨f, by omega, _, _, by omega, by omega, by omega, hadj, rfl, rfl⟩
    | (rw [← hQ0] at hadj
       unfold div64M
       rw [if_neg h0, ← hadj, hQ1])

def wdivM (w : W2) (b : Int) : Int × Int × Bool := if b ≤ w.1 then (0, 0, false) else ((div64M w.1 w.2 b).1, (div64M w.1 w.2 b).2, true)
theorem div64M_in {hi lo y : Int} (hlo : InU lo) (hy : InU y) (h0 : hi < y) (h1 : 0 ≤ hi) : InU (div64M hi lo y).1 ∧ InU (div64M hi lo y).2 := by
  have h2 := hlo.1
  have h3 := hlo.2
  have h4 := hy.2
  unfold div64M
  split
  · have ht : InU (lo.tmod y) := by
      rw [Int.tmod_eq_emod_of_nonneg h2]
      exact ⟨Int.emod_nonneg _ (by omega), by have := Int.emod_lt_of_pos lo (show 0 < y by omega); omega⟩
    exact ⟨wrap_inU _, ht⟩
  · exact ⟨wrap_inU _, shr_inU (wrap_inU _) _⟩
theorem wdiv_spec {w : W2} (hw : InW w) {b : Int} (hb : InU b) (H : MH) : Spec Try.prog 92 [wd w, u64 b] H fun v H' => v = .tup [u64 (wdivM w b).1, u64 (wdivM w b).2.1, bl (wdivM w b).2.2] ∧ H' = H := by
  refine Spec.scalar (enterS Try.func92 [.tmp 4, .tmp 5, .tmp 6] ?_)
  repeat' first | (with_reducible (show W _ _ _ _ _); with_reducible refine go2 ?_) | (with_reducible (show W _ _ _ _ _); with_reducible refine sg2 ?_ ?_ <;> intro _) | (with_reducible (show W _ _ _ _ _); with_reducible refine sc2 ?_ ?_ <;> intro _) | ((with_reducible (show CallK _ _ _ _ _ _ _ _ _ _ _); with_reducible refine cm2 (div64_spec hw.1 hw.2 hb (by omega) _) ?_))
  · rename_i h
    simp [wdivM, h]
  · rename_i h
    simp [wdivM, h]
/-- The exponents that make both as long as can be. -/
def upD (m : Int) : Int := IntKind.i64.wrap (53 - wlenM (0, m))
def downD (n : Int) : Int := IntKind.i64.wrap (64 - wlenM (0, n))
def quoM (a b : Int) : Int × Int × Bool := wdivM (shlV .u64 (partsM a).1 (IntKind.i64.wrap (upD (partsM a).1 + 10)), 0) (shlV .u64 (partsM b).1 (downD (partsM b).1))
def divM (a b : Int) : Int × Int :=
  if (nanM a b).2 then (9221120237041090560, (nanM a b).1) else
  if (kindM a = 4 ∧ kindM b = 4) ∨ (kindM a = 1 ∧ kindM b = 1) then (9221120237041090560, 16) else
  if kindM a = 4 then (makeM (negM a != negM b) 2047 0, 0) else
  if kindM b = 4 ∨ kindM a = 1 then (makeM (negM a != negM b) 0 0, 0) else
  if kindM b = 1 then (makeM (negM a != negM b) 2047 0, 8) else
  roundM (negM a != negM b) (0, (quoM a b).1) (IntKind.i64.wrap (IntKind.i64.wrap (IntKind.i64.wrap (IntKind.i64.wrap ((partsM a).2 - upD (partsM a).1) - 10) - 64) - IntKind.i64.wrap ((partsM b).2 - downD (partsM b).1))) (decide (¬ (quoM a b).2.1 = 0))
theorem divM_in (a b : Int) : InU (divM a b).1 := by
  unfold divM
  repeat' split
  all_goals first | exact quiet_in | exact make_in _ _ _ | exact roundM_in _ _ _ _
theorem wdivM_in {w : W2} (hw : InW w) {b : Int} (hb : InU b) : InU (wdivM w b).1 ∧ InU (wdivM w b).2.1 := by
  unfold wdivM
  split
  · exact ⟨zero_in, zero_in⟩
  · exact div64M_in hw.2 hb (by omega) hw.1.1
theorem div_spec {a b : Int} (ha : InU a) (hb : InU b) (H : MH) : Spec Try.prog 80 [u64 a, u64 b] H fun v H' => v = .tup [u64 (divM a b).1, u8 (divM a b).2] ∧ H' = H := by
  have hbs := bsV_two
  have hm := parts53 ha
  have hn := parts53 hb
  have hmw : InW (0, (partsM a).1) := ⟨zero_in, parts_in ha⟩
  have hnw : InW (0, (partsM b).1) := ⟨zero_in, parts_in hb⟩
  have l1 := wlen53 hm
  have l2 := wlen53 hn
  have s1 : ¬ IntKind.i64.wrap (IntKind.i64.wrap (53 - wlenM (0, (partsM a).1)) + 10) < 0 := by rw [wrap_i64 (n := 53 - wlenM (0, (partsM a).1)) (by omega), wrap_i64 (by omega)]; omega
  have s2 : ¬ IntKind.i64.wrap (64 - wlenM (0, (partsM b).1)) < 0 := by rw [wrap_i64 (by omega)]; omega
  have hq : InU (quoM a b).1 := (wdivM_in (w := (_, 0)) ⟨shl_inU _ _, zero_in⟩ (shl_inU _ _)).1
  have hquo : wdivM (shlV .u64 (partsM a).1 (IntKind.i64.wrap (IntKind.i64.wrap (53 - wlenM (0, (partsM a).1)) + 10)), 0) (shlV .u64 (partsM b).1 (IntKind.i64.wrap (64 - wlenM (0, (partsM b).1)))) = quoM a b := rfl
  refine Spec.scalar (enterS Try.func80 [.tmp 4, .tmp 5] ?_)
  repeat' first | (with_reducible (show W _ _ _ _ _); with_reducible refine go2 ?_) | (with_reducible (show W _ _ _ _ _); with_reducible refine sg2 ?_ ?_ <;> intro _) | (with_reducible (show W _ _ _ _ _); with_reducible refine sc2 ?_ ?_ <;> intro _) | (with_reducible (show CallK _ _ _ _ _ _ _ _ _ _ _); with_reducible refine ce2 (nan_spec _ _ slice_new) ?_) | (with_reducible (show CallK _ _ _ _ _ _ _ _ _ _ _); with_reducible refine ce2 (neg_spec _ _) ?_) | (with_reducible (show CallK _ _ _ _ _ _ _ _ _ _ _); with_reducible refine ce2 (kind_spec _ _) ?_) | (with_reducible (show CallK _ _ _ _ _ _ _ _ _ _ _); with_reducible refine ce2 (make_spec _ _ _ _) ?_) | (with_reducible (show CallK _ _ _ _ _ _ _ _ _ _ _); with_reducible refine ce2 (parts_spec _ _) ?_) | (with_reducible (show CallK _ _ _ _ _ _ _ _ _ _ _); with_reducible refine ce2 (wlen_spec (a := (0, _)) hmw _) ?_) | (with_reducible (show CallK _ _ _ _ _ _ _ _ _ _ _); with_reducible refine ce2 (wlen_spec (a := (0, _)) hnw _) ?_) | (with_reducible (show CallK _ _ _ _ _ _ _ _ _ _ _); with_reducible refine ce2 (round_spec _ (w := (0, _)) ⟨zero_in, hq⟩ _ _ _) ?_) | (with_reducible (show W _ _ (.code (.region 18 _ true) :: _) _ _); with_reducible refine W_draw [(0, []), (1, []), (2, []), (3, []), (4, []), (5, []), (6, []), (7, []), (8, []), (9, []), (10, []), (11, [])] [] (by kernel_rfl) ?_) | ((with_reducible (show CallK _ _ _ _ _ _ _ _ _ _ _); with_reducible refine cm2 (wdiv_spec (w := (_, 0)) ⟨shl_inU _ _, zero_in⟩ (shl_inU _ _) _) ?_))
  all_goals first
    | (simp_all [divM, bne]; done)
    | (rename_i a1 a2 a3 a4 a5
       unfold divM
       rw [if_neg a1, if_neg (by rintro (⟨h, _⟩ | ⟨h, _⟩); exact a2 h; exact a3 h), if_neg a2, if_neg (by rintro (h | h); exact a4 h; exact a3 h), if_neg a5]
       simp [upD, downD, bne])

theorem cdiv_nil {a b : Int} (ha : InU a) (hb : InU b) (H : MH) : Spec Try.prog 60 [nilp, u64 a, u64 b] H fun v H' => v = u64 (divM a b).1 ∧ H' = H := by
  refine Spec.scalar (enterS Try.func60 [.tmp 6] ?_)
  repeat' first | (with_reducible (show W _ _ _ _ _); with_reducible refine go2 ?_) | (with_reducible (show W _ _ _ _ _); with_reducible refine sg2 ?_ ?_ <;> intro _) | (with_reducible (show W _ _ _ _ _); with_reducible refine sc2 ?_ ?_ <;> intro _) | (with_reducible (show CallK _ _ _ _ _ _ _ _ _ _ _); with_reducible refine ce2 (note_nil _ _ _) ?_) | (with_reducible (show CallK _ _ _ _ _ _ _ _ _ _ _); with_reducible refine ce2 (div_spec ha hb _) ?_)
  all_goals simp [*]
theorem cdiv_spec {a b : Int} (ha : InU a) (hb : InU b) (g : Int) {H : MH} {p : Nat} (hp : hget H p = some ⟨[u8 g], true⟩) : Spec Try.prog 60 [.ptr p 0, u64 a, u64 b] H fun v H' => v = u64 (divM a b).1 ∧ H' = H.set p (some ⟨[u8 (bits .or .u8 g (divM a b).2)], true⟩) := by
  refine enterS Try.func60 [.tmp 6] ?_
  repeat' first | (with_reducible (show W _ _ _ _ _); with_reducible refine go2 ?_) | (with_reducible (show W _ _ _ _ _); with_reducible refine sg2 ?_ ?_ <;> intro _) | (with_reducible (show W _ _ _ _ _); with_reducible refine sc2 ?_ ?_ <;> intro _) | (with_reducible (show CallK _ _ _ _ _ _ _ _ _ _ _); with_reducible refine ce2 (div_spec ha hb _) ?_) | ((with_reducible (show CallK _ _ _ _ _ _ _ _ _ _ _); with_reducible refine cM (note_spec _ _ _ hp) ?_))
  all_goals simp [*]
end Go.Proofs.Ytamoljalficfgaa.M
