/- What a quotient is: math/bits.Div64, soft.Div, as functions of the numbers. -/
import Derived.Test.YtcikcinkjbbnhaaDoorC37
set_option linter.unusedSimpArgs false
set_option linter.unusedVariables false
set_option pp.deepTerms false
set_option pp.maxSteps 1500
set_option maxRecDepth 10000
set_option maxHeartbeats 8000000
namespace Go.Proofs.YtcikcinkjbbnhaaDoor.M
open Go Go.Proofs

abbrev wu (x : Int) : Int := IntKind.u64.wrap x
/-- An estimate put right: both halves of the divisor, the next digit; the estimate and what it leaves. -/
def adjM (y1 y0 u : Int) : Nat → Int × Int → Int
  | 0, s => s.1
  | f + 1, s => if 4294967296 ≤ s.1 ∨ wu (wu (4294967296 * s.2) + u) < wu (s.1 * y0) then (if 4294967296 ≤ wu (s.2 + y1) then wu (s.1 - 1) else adjM y1 y0 u f (wu (s.1 - 1), wu (s.2 + y1))) else s.1
def dY (y : Int) : Int := shlV .u64 y (shN y)
def dY0 (y : Int) : Int := bits .and .u64 (dY y) 4294967295
def du (hi lo y : Int) : Int := bits .or .u64 (shlV .u64 hi (shN y)) (shrV .u64 lo (wu (64 - shN y)))
def dn1 (lo y : Int) : Int := shrV .u64 (shlV .u64 lo (shN y)) 32
def dn0 (lo y : Int) : Int := bits .and .u64 (shlV .u64 lo (shN y)) 4294967295
def est (u y1 : Int) : Int × Int := (wu (u.tdiv y1), wu (u - wu (wu (u.tdiv y1) * y1)))
def dq1 (hi lo y : Int) : Int := adjM (ynM y) (dY0 y) (dn1 lo y) 2 (est (du hi lo y) (ynM y))
def du2 (hi lo y q1 : Int) : Int := wu (wu (wu (du hi lo y * 4294967296) + dn1 lo y) - wu (q1 * dY y))
def dq0 (hi lo y q1 : Int) : Int := adjM (ynM y) (dY0 y) (dn0 lo y) 2 (est (du2 hi lo y q1) (ynM y))
def div64M (hi lo y : Int) : Int × Int := if hi = 0 then (wu (lo.tdiv y), lo.tmod y) else
  (wu (wu (dq1 hi lo y * 4294967296) + dq0 hi lo y (dq1 hi lo y)), shrV .u64 (wu (wu (wu (du2 hi lo y (dq1 hi lo y) * 4294967296) + dn0 lo y) - wu (dq0 hi lo y (dq1 hi lo y) * dY y))) (shN y))

theorem div64_spec {hi lo y : Int} (hhi : InU hi) (hlo : InU lo) (hy : InU y) (hlt : hi < y) (H : MH) : Spec Tryd.prog 106 [u64 hi, u64 lo, u64 y] H fun v H' => v = .tup [u64 (div64M hi lo y).1, u64 (div64M hi lo y).2] ∧ H' = H := by
  have h1 := hhi.1
  have y0 : (y = 0) = False := eq_false (by omega)
  have yl : (y ≤ hi) = False := eq_false (by omega)
  have hshr : ∀ x, ¬ IntKind.u64.wrap x < 0 := fun x => by have := (wrap_inU x).1; omega
  have hn := norm_in hy (by omega)
  have hq : (shrV .u64 (shlV .u64 y (IntKind.u64.wrap (IntKind.i64.wrap (64 - lenM y)))) 32 = 0) = False := eq_false (by omega)
  refine Spec.scalar (enterS Tryd.func106 [.tmp 6, .tmp 7] ?_)
  repeat' first | (with_reducible (show W _ _ _ _ _); with_reducible refine go2 ?_) | (with_reducible (show W _ _ _ _ _); with_reducible refine sg2 ?_ ?_ <;> intro _) | (with_reducible (show W _ _ _ _ _); with_reducible refine sc2 ?_ ?_ <;> intro _) | (with_reducible (show CallK _ _ _ _ _ _ _ _ _ _ _); with_reducible refine ce2 (lz_spec hy _) ?_) | (with_reducible (show W _ _ (.code (.region 6 _ true) :: _) _ _); with_reducible refine W_draw [(0, []), (1, []), (2, []), (3, []), (4, []), (5, []), (6, []), (7, [])] [] (by kernel_rfl) ?_)
  · rename_i h0
    simp [div64M, h0]
  rename_i h0
  have hnY : 2147483648 ≤ ynM y ∧ ynM y < 4294967296 := hn
  have hqY : (ynM y = 0) = False := hq
  have hS : ¬ shN y < 0 := hshr _
  have hrem : ∀ U, InU U → 0 ≤ (est U (ynM y)).2 ∧ (est U (ynM y)).2 < 4294967296 := fun U hU => rem_in hU hnY
  have hU1 : InU (du hi lo y) := bits_inU _ _ _
  obtain ⟨Q1, hQ1⟩ : ∃ Q1, dq1 hi lo y = Q1 := ⟨_, rfl⟩
  refine W_for (fun j ρ H' => ∃ (q rh : Int), 0 ≤ rh ∧ rh < 4294967296 ∧ 4294967296 ≤ rh + j * 2147483648 ∧ adjM (ynM y) (dY0 y) (dn1 lo y) j (q, rh) = Q1 ∧ ρ 2 = u64 (dY y) ∧ ρ 8 = u64 (shN y) ∧ ρ 9 = u64 (ynM y) ∧ ρ 10 = u64 (dY0 y) ∧ ρ 11 = u64 (du hi lo y) ∧ ρ 13 = u64 (dn1 lo y) ∧ ρ 14 = u64 (dn0 lo y) ∧ ρ 15 = u64 q ∧ ρ 16 = u64 rh ∧ H' = H) 2 ?_ ?_
  · have := hrem _ hU1
    exact ⟨_, _, this.1, this.2, by omega, hQ1, rfl, rfl, rfl, rfl, rfl, rfl, rfl, rfl, rfl, rfl⟩
  clear hn hq
  rintro j ρ H' ⟨q, rh, hr0, hr1, hr2, hadj, h2, h8, h9, h10, h11, h13, h14, h15, h16, rfl⟩
  have hY1 := hnY.1
  have hY2 := hnY.2
  have ew : IntKind.u64.wrap (rh + ynM y) = rh + ynM y := by rw [wrap_u64]; omega
  obtain ⟨f, rfl⟩ : ∃ f, j = f + 1 := ⟨j - 1, by omega⟩
  unfold adjM at hadj
  dsimp only at hadj
  rw [show wu (rh + ynM y) = rh + ynM y from ew] at hadj
  repeat' first | (with_reducible (show W _ _ _ _ _); with_reducible refine go2 ?_) | (with_reducible (show W _ _ _ _ _); with_reducible refine sg2 ?_ ?_ <;> intro _) | (with_reducible (show W _ _ _ _ _); with_reducible refine sc2 ?_ ?_ <;> intro _) | (with_reducible (show W _ _ (.code (.region 6 _ true) :: _) _ _); with_reducible refine W_draw [(0, []), (1, []), (2, []), (3, []), (4, []), (5, []), (6, []), (7, [])] [] (by kernel_rfl) ?_)
  all_goals first
    | rw [if_pos (show 4294967296 ≤ q ∨ wu (wu (4294967296 * rh) + dn1 lo y) < wu (q * dY0 y) from .inl (by assumption))] at hadj
    | rw [if_pos (show 4294967296 ≤ q ∨ wu (wu (4294967296 * rh) + dn1 lo y) < wu (q * dY0 y) from .inr (by assumption))] at hadj
    | rw [if_neg (show ¬ (4294967296 ≤ q ∨ wu (wu (4294967296 * rh) + dn1 lo y) < wu (q * dY0 y)) from fun h => h.elim (by assumption) (by assumption))] at hadj
  all_goals try first
    | rw [if_pos (show 4294967296 ≤ rh + ynM y by assumption)] at hadj
    | rw [if_neg (show ¬ 4294967296 ≤ rh + ynM y by assumption)] at hadj
  all_goals first
    | exact ⟨f, by omega, _, _, by omega, by omega, by omega, hadj, rfl, rfl⟩
    | rw [← hQ1] at hadj
  all_goals obtain ⟨Q0, hQ0⟩ : ∃ Q0, dq0 hi lo y (dq1 hi lo y) = Q0 := ⟨_, rfl⟩
  all_goals have hU2 := hrem (du2 hi lo y (dq1 hi lo y)) (wrap_inU _)
  all_goals refine W_for (fun j ρ H'' => ∃ (q rh : Int), 0 ≤ rh ∧ rh < 4294967296 ∧ 4294967296 ≤ rh + j * 2147483648 ∧ adjM (ynM y) (dY0 y) (dn0 lo y) j (q, rh) = Q0 ∧ ρ 2 = u64 (dY y) ∧ ρ 8 = u64 (shN y) ∧ ρ 9 = u64 (ynM y) ∧ ρ 10 = u64 (dY0 y) ∧ ρ 14 = u64 (dn0 lo y) ∧ ρ 15 = u64 (dq1 hi lo y) ∧ ρ 17 = u64 (du2 hi lo y (dq1 hi lo y)) ∧ ρ 18 = u64 q ∧ ρ 16 = u64 rh ∧ H'' = H') 2 ?_ ?_
  all_goals try
    (refine ⟨(est (du2 hi lo y (dq1 hi lo y)) (ynM y)).1, (est (du2 hi lo y (dq1 hi lo y)) (ynM y)).2, hU2.1, hU2.2, by omega, hQ0, h2, h8, h9, h10, h14, ?_, ?_, ?_, ?_, rfl⟩
     all_goals (rw [← hadj]; first | exact h15 | rfl))
  all_goals clear h2 h8 h9 h10 h11 h13 h14 h15 h16 ew hr0 hr1 hr2 hadj
  all_goals rintro j ρ H'' ⟨q, rh, hr0, hr1, hr2, hadj, h2, h8, h9, h10, h14, h15, h17, h18, h16, rfl⟩
  all_goals have ew : IntKind.u64.wrap (rh + ynM y) = rh + ynM y := by rw [wrap_u64]; omega
  all_goals obtain ⟨f, rfl⟩ : ∃ f, j = f + 1 := ⟨j - 1, by omega⟩
  all_goals unfold adjM at hadj
  all_goals dsimp only at hadj
  all_goals rw [show wu (rh + ynM y) = rh + ynM y from ew] at hadj
  all_goals (repeat' first | (with_reducible (show W _ _ _ _ _); with_reducible refine go2 ?_) | (with_reducible (show W _ _ _ _ _); with_reducible refine sg2 ?_ ?_ <;> intro _) | (with_reducible (show W _ _ _ _ _); with_reducible refine sc2 ?_ ?_ <;> intro _) | (with_reducible (show W _ _ (.code (.region 6 _ true) :: _) _ _); with_reducible refine W_draw [(0, []), (1, []), (2, []), (3, []), (4, []), (5, []), (6, []), (7, [])] [] (by kernel_rfl) ?_))
  all_goals first
    | rw [if_pos (show 4294967296 ≤ q ∨ wu (wu (4294967296 * rh) + dn0 lo y) < wu (q * dY0 y) from .inl (by assumption))] at hadj
    | rw [if_pos (show 4294967296 ≤ q ∨ wu (wu (4294967296 * rh) + dn0 lo y) < wu (q * dY0 y) from .inr (by assumption))] at hadj
    | rw [if_neg (show ¬ (4294967296 ≤ q ∨ wu (wu (4294967296 * rh) + dn0 lo y) < wu (q * dY0 y)) from fun h => h.elim (by assumption) (by assumption))] at hadj
  all_goals try first
    | rw [if_pos (show 4294967296 ≤ rh + ynM y by assumption)] at hadj
    | rw [if_neg (show ¬ 4294967296 ≤ rh + ynM y by assumption)] at hadj
  all_goals first
    | exact ⟨f, by omega, _, _, by omega, by omega, by omega, hadj, rfl, rfl⟩
    | (rw [← hQ0] at hadj
       unfold div64M
       rw [if_neg h0, ← hadj, hQ1])

def wdivM (w : W2) (b : Int) : Int × Int × Bool := if b ≤ w.1 then (0, 0, false) else ((div64M w.1 w.2 b).1, (div64M w.1 w.2 b).2, true)
theorem div64M_in {hi lo y : Int} (hlo : InU lo) (hy : InU y) (h0 : hi < y) (h1 : 0 ≤ hi) : InU (div64M hi lo y).1 ∧ InU (div64M hi lo y).2 := by
  have h2 := hlo.1
  have h3 := hlo.2
  have h4 := hy.2
  unfold div64M
  split
  · have ht : InU (lo.tmod y) := by
      rw [Int.tmod_eq_emod_of_nonneg h2]
      exact ⟨Int.emod_nonneg _ (by omega), by have := Int.emod_lt_of_pos lo (show 0 < y by omega); omega⟩
    exact ⟨wrap_inU _, ht⟩
  · exact ⟨wrap_inU _, shr_inU (wrap_inU _) _⟩
theorem wdiv_spec {w : W2} (hw : InW w) {b : Int} (hb : InU b) (H : MH) : Spec Tryd.prog 97 [wd w, u64 b] H fun v H' => v = .tup [u64 (wdivM w b).1, u64 (wdivM w b).2.1, bl (wdivM w b).2.2] ∧ H' = H := by
  refine Spec.scalar (enterS Tryd.func97 [.tmp 4, .tmp 5, .tmp 6] ?_)
  repeat' first | (with_reducible (show W _ _ _ _ _); with_reducible refine go2 ?_) | (with_reducible (show W _ _ _ _ _); with_reducible refine sg2 ?_ ?_ <;> intro _) | (with_reducible (show W _ _ _ _ _); with_reducible refine sc2 ?_ ?_ <;> intro _) | ((with_reducible (show CallK _ _ _ _ _ _ _ _ _ _ _); with_reducible refine cm2 (div64_spec hw.1 hw.2 hb (by omega) _) ?_))
  · rename_i h
    simp [wdivM, h]
  · rename_i h
    simp [wdivM, h]
/-- The exponents that make both as long as can be. -/
def upD (m : Int) : Int := IntKind.i64.wrap (53 - wlenM (0, m))
def downD (n : Int) : Int := IntKind.i64.wrap (64 - wlenM (0, n))
def quoM (a b : Int) : Int × Int × Bool := wdivM (shlV .u64 (partsM a).1 (IntKind.i64.wrap (upD (partsM a).1 + 10)), 0) (shlV .u64 (partsM b).1 (downD (partsM b).1))
def divM (a b : Int) : Int × Int :=
  if (nanM a b).2 then (9221120237041090560, (nanM a b).1) else
  if (kindM a = 4 ∧ kindM b = 4) ∨ (kindM a = 1 ∧ kindM b = 1) then (9221120237041090560, 16) else
  if kindM a = 4 then (makeM (negM a != negM b) 2047 0, 0) else
  if kindM b = 4 ∨ kindM a = 1 then (makeM (negM a != negM b) 0 0, 0) else
  if kindM b = 1 then (makeM (negM a != negM b) 2047 0, 8) else
  roundM (negM a != negM b) (0, (quoM a b).1) (IntKind.i64.wrap (IntKind.i64.wrap (IntKind.i64.wrap (IntKind.i64.wrap ((partsM a).2 - upD (partsM a).1) - 10) - 64) - IntKind.i64.wrap ((partsM b).2 - downD (partsM b).1))) (decide (¬ (quoM a b).2.1 = 0))
theorem divM_in (a b : Int) : InU (divM a b).1 := by
  unfold divM
  repeat' split
  all_goals first | exact quiet_in | exact make_in _ _ _ | exact roundM_in _ _ _ _
theorem wdivM_in {w : W2} (hw : InW w) {b : Int} (hb : InU b) : InU (wdivM w b).1 ∧ InU (wdivM w b).2.1 := by
  unfold wdivM
  split
  · exact ⟨zero_in, zero_in⟩
  · exact div64M_in hw.2 hb (by omega) hw.1.1
theorem div_spec {a b : Int} (ha : InU a) (hb : InU b) (H : MH) : Spec Tryd.prog 80 [u64 a, u64 b] H fun v H' => v = .tup [u64 (divM a b).1, u8 (divM a b).2] ∧ H' = H := by
  have hbs := bsV_two
  have hm := parts53 ha
  have hn := parts53 hb
  have hmw : InW (0, (partsM a).1) := ⟨zero_in, parts_in ha⟩
  have hnw : InW (0, (partsM b).1) := ⟨zero_in, parts_in hb⟩
  have l1 := wlen53 hm
  have l2 := wlen53 hn
  have s1 : ¬ IntKind.i64.wrap (IntKind.i64.wrap (53 - wlenM (0, (partsM a).1)) + 10) < 0 := by rw [wrap_i64 (n := 53 - wlenM (0, (partsM a).1)) (by omega), wrap_i64 (by omega)]; omega
  have s2 : ¬ IntKind.i64.wrap (64 - wlenM (0, (partsM b).1)) < 0 := by rw [wrap_i64 (by omega)]; omega
  have hq : InU (quoM a b).1 := (wdivM_in (w := (_, 0)) ⟨shl_inU _ _, zero_in⟩ (shl_inU _ _)).1
  have hquo : wdivM (shlV .u64 (partsM a).1 (IntKind.i64.wrap (IntKind.i64.wrap (53 - wlenM (0, (partsM a).1)) + 10)), 0) (shlV .u64 (partsM b).1 (IntKind.i64.wrap (64 - wlenM (0, (partsM b).1)))) = quoM a b := rfl
  refine Spec.scalar (enterS Tryd.func80 [.tmp 4, .tmp 5] ?_)
  repeat' first | (with_reducible (show W _ _ _ _ _); with_reducible refine go2 ?_) | (with_reducible (show W _ _ _ _ _); with_reducible refine sg2 ?_ ?_ <;> intro _) | (with_reducible (show W _ _ _ _ _); with_reducible refine sc2 ?_ ?_ <;> intro _) | (with_reducible (show CallK _ _ _ _ _ _ _ _ _ _ _); with_reducible refine ce2 (nan_spec _ _ slice_new) ?_) | (with_reducible (show CallK _ _ _ _ _ _ _ _ _ _ _); with_reducible refine ce2 (neg_spec _ _) ?_) | (with_reducible (show CallK _ _ _ _ _ _ _ _ _ _ _); with_reducible refine ce2 (kind_spec _ _) ?_) | (with_reducible (show CallK _ _ _ _ _ _ _ _ _ _ _); with_reducible refine ce2 (make_spec _ _ _ _) ?_) | (with_reducible (show CallK _ _ _ _ _ _ _ _ _ _ _); with_reducible refine ce2 (parts_spec _ _) ?_) | (with_reducible (show CallK _ _ _ _ _ _ _ _ _ _ _); with_reducible refine ce2 (wlen_spec (a := (0, _)) hmw _) ?_) | (with_reducible (show CallK _ _ _ _ _ _ _ _ _ _ _); with_reducible refine ce2 (wlen_spec (a := (0, _)) hnw _) ?_) | (with_reducible (show CallK _ _ _ _ _ _ _ _ _ _ _); with_reducible refine ce2 (round_spec _ (w := (0, _)) ⟨zero_in, hq⟩ _ _ _) ?_) | (with_reducible (show W _ _ (.code (.region 18 _ true) :: _) _ _); with_reducible refine W_draw [(0, []), (1, []), (2, []), (3, []), (4, []), (5, []), (6, []), (7, []), (8, []), (9, []), (10, []), (11, [])] [] (by kernel_rfl) ?_) | ((with_reducible (show CallK _ _ _ _ _ _ _ _ _ _ _); with_reducible refine cm2 (wdiv_spec (w := (_, 0)) ⟨shl_inU _ _, zero_in⟩ (shl_inU _ _) _) ?_))
  all_goals first
    | (simp_all [divM, bne]; done)
    | (rename_i a1 a2 a3 a4 a5
       unfold divM
       rw [if_neg a1, if_neg (by rintro (⟨h, _⟩ | ⟨h, _⟩); exact a2 h; exact a3 h), if_neg a2, if_neg (by rintro (h | h); exact a4 h; exact a3 h), if_neg a5]
       simp [upD, downD, bne])

theorem cdiv_nil {a b : Int} (ha : InU a) (hb : InU b) (H : MH) : Spec Tryd.prog 55 [nilp, u64 a, u64 b] H fun v H' => v = u64 (divM a b).1 ∧ H' = H := by
  refine Spec.scalar (enterS Tryd.func55 [.tmp 6] ?_)
  repeat' first | (with_reducible (show W _ _ _ _ _); with_reducible refine go2 ?_) | (with_reducible (show W _ _ _ _ _); with_reducible refine sg2 ?_ ?_ <;> intro _) | (with_reducible (show W _ _ _ _ _); with_reducible refine sc2 ?_ ?_ <;> intro _) | (with_reducible (show CallK _ _ _ _ _ _ _ _ _ _ _); with_reducible refine ce2 (note_nil _ _ _) ?_) | (with_reducible (show CallK _ _ _ _ _ _ _ _ _ _ _); with_reducible refine ce2 (div_spec ha hb _) ?_)
  all_goals simp [*]
theorem cdiv_spec {a b : Int} (ha : InU a) (hb : InU b) (g : Int) {H : MH} {p : Nat} (hp : hget H p = some ⟨[u8 g], true⟩) : Spec Tryd.prog 55 [.ptr p 0, u64 a, u64 b] H fun v H' => v = u64 (divM a b).1 ∧ H' = H.set p (some ⟨[u8 (bits .or .u8 g (divM a b).2)], true⟩) := by
  refine enterS Tryd.func55 [.tmp 6] ?_
  repeat' first | (with_reducible (show W _ _ _ _ _); with_reducible refine go2 ?_) | (with_reducible (show W _ _ _ _ _); with_reducible refine sg2 ?_ ?_ <;> intro _) | (with_reducible (show W _ _ _ _ _); with_reducible refine sc2 ?_ ?_ <;> intro _) | (with_reducible (show CallK _ _ _ _ _ _ _ _ _ _ _); with_reducible refine ce2 (div_spec ha hb _) ?_) | ((with_reducible (show CallK _ _ _ _ _ _ _ _ _ _ _); with_reducible refine cM (note_spec _ _ _ hp) ?_))
  all_goals simp [*]
end Go.Proofs.YtcikcinkjbbnhaaDoor.M

/- The reflection of any list, as a function of its numbers. -/
set_option linter.unusedSimpArgs false
set_option linter.unusedVariables false
set_option pp.deepTerms false
set_option pp.maxSteps 1500
set_option maxRecDepth 10000
set_option maxHeartbeats 8000000
namespace Go.Proofs.YtcikcinkjbbnhaaDoor.M
open Go Go.Proofs

/-- Is there nothing to reflect? -/
def genB (xs : List Int) : Bool := !(powerM xs).2 || !(powerM xs.tail).2 || decide (IntKind.i64.wrap ((powerM xs.tail).1 - (powerM xs).1) < -400)
def genU (xs : List Int) : List Int := unitL xs (powerM xs).1
def genBeta (xs : List Int) : Int := if negM ((genU xs).getD 0 0) = true then nrm2M (genU xs) else flipM (nrm2M (genU xs))
def genD (xs : List Int) : Int := (addM ((genU xs).getD 0 0) (flipM (genBeta xs))).1
def genL (xs : List Int) (k : Nat) : List Int := 4607182418800017408 :: (List.range k).map fun i => (divM ((genU xs).getD (1 + i) 0) (genD xs)).1
theorem genL_succ (xs : List Int) (k : Nat) : genL xs (k + 1) = genL xs k ++ [(divM ((genU xs).getD (1 + k) 0) (genD xs)).1] := by
  simp [genL, List.range_succ]
theorem genL_len (xs : List Int) (k : Nat) : (genL xs k).length = k + 1 := by simp [genL]
theorem genL_in (xs : List Int) (k : Nat) : InD (genL xs k) := by
  intro x hx
  rcases List.mem_cons.1 hx with rfl | hx
  · constructor <;> decide
  · obtain ⟨i, _, rfl⟩ := List.mem_map.1 hx
    exact divM_in _ _
def genV (xs : List Int) : List Int := if genB xs = true then genZ xs.length else genL xs (xs.length - 1)
def genTau (xs : List Int) : Int := (divM (addM (genBeta xs) (flipM ((genU xs).getD 0 0))).1 (genBeta xs)).1
def genT (xs : List Int) : Int := if genB xs = true then 0 else genTau xs
def genK (xs : List Int) : Int × Int := if genB xs = true then (xs.getD 0 0, 0) else scaleM (genBeta xs) (powerM xs).1
theorem genV_len {xs : List Int} (h : 0 < xs.length) : (genV xs).length = xs.length := by
  unfold genV
  split
  · exact genZ_len _
  · rw [genL_len]; omega
theorem genV_in (xs : List Int) : InD (genV xs) := by
  unfold genV
  split
  · exact genZ_in _
  · exact genL_in _ _
theorem genBeta_in (xs : List Int) : InU (genBeta xs) := by
  unfold genBeta
  split
  · exact nrm2M_in _
  · exact flip_in _
theorem genD_in {xs : List Int} (h : InD xs) : InU (genD xs) := addM_in (getD_in (unitL_in h _) _) (flip_in _)
theorem genT_in (xs : List Int) : InU (genT xs) := by
  unfold genT
  split
  · exact zero_in
  · exact divM_in _ _
theorem genK_in {xs : List Int} (h : InD xs) : InU (genK xs).1 := by
  unfold genK
  split
  · exact getD_in h _
  · exact scaleM_in (genBeta_in _) _
theorem hgen_spec {H : MH} {p o c : Nat} {ob : MO} {xs : List Int} (hp : hget H p = some ob) (hcell : ∀ i, i < xs.length → ob.cells[o + i]? = some (u64 (xs.getD i 0))) (hc : xs.length ≤ c) (hlen : 0 < xs.length ∧ xs.length ≤ 1000000) (hfin : finL xs = true) (hI : InD xs) :
    Spec Tryd.prog 11 [.slice p o xs.length c 1] H fun u H' => ∃ q : Nat, xs.length ≤ q ∧ u = .tup [.agg [.slice H.length 0 xs.length q 1, u64 (genT xs)], u64 (genK xs).1, u8 (genK xs).2, i64 0] ∧ H' = H ++ [some ⟨(genV xs).map u64, true⟩] := by
  have hpl := lt_of_hget hp
  obtain ⟨N, hN⟩ : ∃ N, N = xs.length := ⟨_, rfl⟩
  have hv : Sl H (.slice p o xs.length c 1) xs := .inr ⟨p, o, c, _, rfl, hp, hcell⟩
  have hv1 : Sl H (.slice p (if c = 1 then o else o + 1) (xs.length - 1) (c - 1) 1) xs.tail := .inr ⟨p, (if c = 1 then o else o + 1), c - 1, _, by rw [List.length_tail], hp, fun i hi => by
    rw [List.length_tail] at hi
    rw [if_neg (by omega), Nat.add_assoc, Nat.add_comm 1 i, hcell (i + 1) (by omega)]
    simp [List.getD_eq_getElem?_getD]⟩
  have hl1 : xs.tail.length ≤ 1000000 := by rw [List.length_tail]; omega
  have om : ∀ f : Operand → MV, Option.map f none = none := fun _ => _root_.id rfl
  have s1 : (1 ≤ (xs.length : Int)) = True := eq_true (by omega)
  have s3 : Int.toNat 1 = 1 := _root_.id rfl
  have s4 : ((0 : Int) ≤ 1) = True := eq_true (by decide)
  have hne : ((xs.length : Int) = 0) = False := eq_false (by omega)
  have hfx : ∀ k : Nat, k < xs.length → finiteM (xs.getD k 0) = true := fun k hk => by
    unfold finL at hfin
    rw [List.all_eq_true] at hfin
    rw [List.getD_eq_getElem?_getD, List.getElem?_eq_getElem hk]
    exact hfin _ (List.getElem_mem hk)
  refine Spec.oneX (G := fun q : Nat => xs.length ≤ q) (v := fun q p => .tup [.agg [.slice p 0 xs.length q 1, u64 (genT xs)], u64 (genK xs).1, u8 (genK xs).2, i64 0]) (cs := fun _ => (genV xs).map u64) (fun t => closed_u64 _) (fun t p => by simp [Cl, Cls']) (fun t π p _ => by simp [ren, rens]) ?_
  refine enterS Tryd.func11 [.cell 2 26, .tmp 3, .tmp 4, .tmp 5] ?_
  repeat' first | (with_reducible (show W _ _ _ _ _); with_reducible refine go2 ?_) | (with_reducible (show W _ _ _ _ _); with_reducible refine sg2 ?_ ?_ <;> intro _) | (with_reducible (show W _ _ _ _ _); with_reducible refine sc2 ?_ ?_ <;> intro _) | (with_reducible (show W _ _ (.code (.region 12 _ true) :: _) _ _); with_reducible refine W_draw [(0, []), (1, []), (3, []), (4, []), (5, []), (2, [5]), (6, [5]), (7, []), (8, []), (9, [])] [5] (by kernel_rfl) ?_) | (with_reducible (show W _ _ (.code (.region 23 _ true) :: _) _ _); with_reducible refine W_draw [(0, []), (1, []), (2, []), (3, []), (4, [1]), (5, []), (6, []), (7, []), (8, [])] [1] (by kernel_rfl) ?_)
  refine W_for (fun j ρ H' => ∃ k : Nat, k + j = xs.length ∧ ρ 0 = .slice p o xs.length c 1 ∧ ρ 2 = .ptr H.length 0 ∧ ρ 25 = .slice p o xs.length c 1 ∧ ρ 26 = i64 (xs.length : Int) ∧ ρ 27 = i64 k ∧ H' = H ++ [some ⟨[.lit (.slice none 0 0), u64 0], true⟩]) xs.length ?_ ?_
  · refine ⟨0, by omega, ?_⟩
    simp [put, args0]
  rintro j ρ H' ⟨k, hk, h0, h2, h25, h26, h27, rfl⟩
  have hia2 : ∀ k : Nat, (k : Int) < xs.length → iaV (.slice 1 8 (some [.int .u64 0]) true) (.slice p o xs.length c 1) (.lit (.int .i64 k)) = some (ixq (.slice p o xs.length c 1) k) := fun k h => hv.ia (by omega) _ _ _ _
  have hld2 : ∀ (k : Nat) (L : MH), (k : Int) < xs.length → loadV Tryd.prog 24 (ixq (.slice p o xs.length c 1) k) (H ++ L) = some (u64 (xs.getD k 0)) := fun k L h => (hv.app L).ld (by rw [ty_24]) (by rw [ty_24]) (by omega)
  have hld0 : ∀ L : MH, loadV Tryd.prog 24 (.ptr p o) (H ++ L) = some (u64 (xs.getD 0 0)) := fun L => by have := hld2 0 L (by omega); simpa [ixq] using this
  have hn0 : (0 < (xs.length : Int)) = True := eq_true (by omega)
  have f9 : (k : Int) < xs.length → finiteM (xs.getD k 0) = true := fun h => hfx k (by omega)
  by_cases hlt : (k : Int) < xs.length
  · repeat' first | (with_reducible (show W _ _ _ _ _); with_reducible refine go2 ?_) | (with_reducible (show W _ _ _ _ _); with_reducible refine sg2 ?_ ?_ <;> intro _) | (with_reducible (show W _ _ _ _ _); with_reducible refine sc2 ?_ ?_ <;> intro _) | (with_reducible (show CallK _ _ _ _ _ _ _ _ _ _ _); with_reducible refine ce2 (finite_spec _ _) ?_) | (with_reducible (show W _ _ (.code (.region 12 _ true) :: _) _ _); with_reducible refine W_draw [(0, []), (1, []), (3, []), (4, []), (5, []), (2, [5]), (6, [5]), (7, []), (8, []), (9, [])] [5] (by kernel_rfl) ?_) | (with_reducible (show W _ _ (.code (.region 23 _ true) :: _) _ _); with_reducible refine W_draw [(0, []), (1, []), (2, []), (3, []), (4, [1]), (5, []), (6, []), (7, []), (8, [])] [1] (by kernel_rfl) ?_)
    · exact ⟨j - 1, by omega, k + 1, by omega, by rw [wrap_suc (n := (xs.length : Int)) (by assumption) (by omega)]⟩
  clear f9
  repeat' first | (with_reducible (show W _ _ _ _ _); with_reducible refine go2 ?_) | (with_reducible (show W _ _ _ _ _); with_reducible refine sg2 ?_ ?_ <;> intro _) | (with_reducible (show W _ _ _ _ _); with_reducible refine sc2 ?_ ?_ <;> intro _) | (with_reducible (show CallK _ _ _ _ _ _ _ _ _ _ _); with_reducible refine ce2 (power_spec (hv1.app _) hl1) ?_) | (with_reducible (show CallK _ _ _ _ _ _ _ _ _ _ _); with_reducible refine ce2 (power_spec (hv.app _) hlen.2) ?_) | (with_reducible (show W _ _ (.code (.region 12 _ true) :: _) _ _); with_reducible refine W_draw [(0, []), (1, []), (3, []), (4, []), (5, []), (2, [5]), (6, [5]), (7, []), (8, []), (9, [])] [5] (by kernel_rfl) ?_) | (with_reducible (show W _ _ (.code (.region 23 _ true) :: _) _ _); with_reducible refine W_draw [(0, []), (1, []), (2, []), (3, []), (4, [1]), (5, []), (6, []), (7, []), (8, [])] [1] (by kernel_rfl) ?_) | ((with_reducible (show CallK _ _ _ _ _ _ _ _ _ _ _); with_reducible refine cm2 (none_spec (n := (xs.length : Int)) (N := xs.length) (by omega) (by omega) _) ?_))
  all_goals first
    | (have hB : genB xs = true := by (unfold genB; simp [*]; done)
       have e1 : genT xs = 0 := if_pos hB
       have e2 : genK xs = (xs.getD 0 0, 0) := if_pos hB
       have e3 : genV xs = genZ xs.length := if_pos hB
       rw [e1, e2, e3]
       exact ⟨xs.length, H.length + 1, Nat.le_refl _, rfl, by omega, hget_newL rfl, (Old.refl H).app _⟩)
    | skip
  rename_i hb1 hb2 hb3
  have hn2 : 2 ≤ xs.length := by
    rcases Nat.lt_or_ge xs.length 2 with h | h
    · have : xs.tail = [] := List.eq_nil_of_length_eq_zero (by rw [List.length_tail]; omega)
      rw [this] at hb2
      exact absurd hb2 (by decide)
    · exact h
  have hB : genB xs = false := by unfold genB; simp [*]
  have eT : genT xs = genTau xs := if_neg (by rw [hB]; decide)
  have eK : genK xs = scaleM (genBeta xs) (powerM xs).1 := if_neg (by rw [hB]; decide)
  have eV : genV xs = genL xs (xs.length - 1) := if_neg (by rw [hB]; decide)
  rw [eT, eK, eV]
  clear eT eK eV hB hb1 hb2 hb3
  (with_reducible (show CallK _ _ _ _ _ _ _ _ _ _ _)); with_reducible refine cx2 (vunit_spec (Sl.app hv _) hI _ hlen) ?_
  rintro u' H' ⟨cu, hcu, rfl, rfl⟩
  have hUl := unitL_len xs (powerM xs).1
  have hUI := unitL_in hI (powerM xs).1
  have hgU : genU xs = unitL xs (powerM xs).1 := rfl
  have hgD := genD_in hI
  have hgB := genBeta_in xs
  generalize unitL xs (powerM xs).1 = U at hUl hUI hgU
  have hlenU : 0 < U.length ∧ U.length ≤ 1000000 := by omega
  have hUcell : ∀ i : Nat, i < U.length → (U.map u64)[i]? = some (u64 (U.getD i 0)) := fun i h => by simp [List.getD_eq_getElem?_getD, h]
  have hvU : ∀ (a : Option MO) (L : MH), Sl (H ++ a :: some ⟨U.map u64, true⟩ :: L) (.slice (H.length + 1) 0 xs.length cu 1) U := fun a L => .inr ⟨H.length + 1, 0, cu, _, by rw [hUl], hget_newL rfl, fun i hi => by rw [Nat.zero_add]; exact hUcell i hi⟩
  have hU0 := getD_in hUI 0
  have hnr := nrm2M_in U
  have e0 : (U.map u64)[0]? = some (u64 (U.getD 0 0)) := hUcell 0 (by omega)
  have hcell : ∀ (a b : Option MO) (g : Int) (L : MH), hget (H ++ a :: b :: some ⟨[u8 g], true⟩ :: L) (H.length + 2) = some ⟨[u8 g], true⟩ := fun a b g L => hget_new (i := 2)
  have s2 : (cu = 1) = False := eq_false (by omega)
  have hbs : ∀ x : Int, bsV (.slice 1 8 (some [.int .u64 0]) true) 1 [(0, u64 x)] = some ([u64 x], 1) := fun x => _root_.id rfl
  have hsub : ∀ a b : Int, InU a → InU (addM a (flipM b)).1 := fun a b h => addM_in h (flip_in b)
  repeat' first | (with_reducible (show W _ _ _ _ _); with_reducible refine go2 ?_) | (with_reducible (show W _ _ _ _ _); with_reducible refine sg2 ?_ ?_ <;> intro _) | (with_reducible (show W _ _ _ _ _); with_reducible refine sc2 ?_ ?_ <;> intro _) | (with_reducible (show CallK _ _ _ _ _ _ _ _ _ _ _); with_reducible refine ce2 (nrm2_spec (hvU _ _) hUI hlenU) ?_) | (with_reducible (show CallK _ _ _ _ _ _ _ _ _ _ _); with_reducible refine ce2 (neg_spec _ _) ?_) | (with_reducible (show CallK _ _ _ _ _ _ _ _ _ _ _); with_reducible refine ce2 (flip_spec _ _) ?_) | (with_reducible (show W _ _ (.code (.region 12 _ true) :: _) _ _); with_reducible refine W_draw [(0, []), (1, []), (3, []), (4, []), (5, []), (2, [5]), (6, [5]), (7, []), (8, []), (9, [])] [5] (by kernel_rfl) ?_) | (with_reducible (show W _ _ (.code (.region 23 _ true) :: _) _ _); with_reducible refine W_draw [(0, []), (1, []), (2, []), (3, []), (4, [1]), (5, []), (6, []), (7, []), (8, [])] [1] (by kernel_rfl) ?_) | ((with_reducible (show CallK _ _ _ _ _ _ _ _ _ _ _); first | (with_reducible refine cM (csub_spec (by first | exact hnr | exact flip_in _ | exact hU0) _ _ (hcell _ _ _ _)) ?_) | (with_reducible refine cM (cdiv_spec (hsub _ _ (by first | exact hnr | exact flip_in _)) (by first | exact hnr | exact flip_in _) _ (hcell _ _ _ _)) ?_)))
  all_goals refine W_for (fun j ρ C => ∃ (k : Nat) (w : MV), k + j = xs.length - 1 ∧ ρ 2 = .ptr H.length 0 ∧ ρ 8 = i64 (powerM xs).1 ∧ ρ 13 = u64 (genBeta xs) ∧ ρ 14 = .ptr (H.length + 2) 0 ∧ ρ 15 = .ptr (H.length + 4) 0 ∧ ρ 16 = u64 (genD xs) ∧
      ρ 92 = .slice (H.length + 1) 1 (xs.length - 1) (cu - 1) 1 ∧ ρ 93 = i64 ((xs.length - 1 : Nat) : Int) ∧ ρ 94 = i64 (k : Int) ∧ Gd H U (genL xs k) (genTau xs) C w w) (xs.length - 1) ?_ ?_
  all_goals try
    (rename_i hneg
     have eb : genBeta xs = flipM (nrm2M U) := by unfold genBeta; rw [hgU, if_neg (by simpa using hneg)]
     refine ⟨0, .slice (H.length + 3) 0 1 1 1, by omega, h2, rfl, by rw [eb]; rfl, rfl, rfl, by unfold genD; rw [hgU, eb]; rfl, rfl, rfl, rfl, ?_⟩
     have et : genTau xs = (divM (addM (flipM (nrm2M U)) (flipM (U.getD 0 0))).1 (flipM (nrm2M U))).1 := by unfold genTau; rw [hgU, eb]
     rw [et]
     exact ⟨(Old.refl H).app _, hget_new', hget_newL rfl, ⟨_, hget_newL rfl⟩, hget_newL rfl, H.length + 3, 1, rfl, Nat.le_refl _, hget_newL rfl, by omega, by omega⟩)
  all_goals try
    (rename_i hneg
     have eb : genBeta xs = nrm2M U := by unfold genBeta; rw [hgU, if_pos (by simpa using hneg)]
     refine ⟨0, .slice (H.length + 3) 0 1 1 1, by omega, h2, rfl, by rw [eb]; rfl, rfl, rfl, by unfold genD; rw [hgU, eb]; rfl, rfl, rfl, rfl, ?_⟩
     have et : genTau xs = (divM (addM (nrm2M U) (flipM (U.getD 0 0))).1 (nrm2M U)).1 := by unfold genTau; rw [hgU, eb]
     rw [et]
     exact ⟨(Old.refl H).app _, hget_new', hget_newL rfl, ⟨_, hget_newL rfl⟩, hget_newL rfl, H.length + 3, 1, rfl, Nat.le_refl _, hget_newL rfl, by omega, by omega⟩)
  all_goals clear hnr hcell
  all_goals rintro j ρ C ⟨k, w, hk, h2, h8, h13, h14, h15, h16, h92, h93, h94, hC⟩
  all_goals have cr := hC.cr
  all_goals have c0 := hC.c0
  all_goals have cU := hC.cU
  all_goals obtain ⟨g0, cg⟩ := hC.cg
  all_goals have f3 : ∀ m : Nat, (0 ≤ (m : Int)) = True := fun m => eq_true (by omega)
  all_goals have f5 : ∀ m : Nat, (m : Int).toNat = m := fun m => Int.toNat_natCast m
  all_goals have f6 : ∀ m : Nat, m * 1 = m := Nat.mul_one
  all_goals have f7 : (k : Int) < ((xs.length - 1 : Nat) : Int) → (U.map u64)[1 + k]? = some (u64 (U.getD (1 + k) 0)) := fun h => hUcell _ (by omega)
  all_goals have hin := getD_in hUI (1 + k)
  all_goals have hL := genL_len xs k
  all_goals have hs : Hid2 (genL xs (k + 1) = genL xs k ++ [(divM (U.getD (1 + k) 0) (genD xs)).1]) := by (unfold Hid2; rw [genL_succ, hgU])
  all_goals have e1 : (k : Int) < ((xs.length - 1 : Nat) : Int) → IntKind.i64.wrap ((k : Int) + 1) = ((k + 1 : Nat) : Int) := fun h => by rw [wrap_i64 (by omega)]; omega
  all_goals have hty : (ty Tryd.prog 22).k = .slice 1 8 (some [.int .u64 0]) true := by rw [ty_22]
  all_goals have hCl := lt_of_hget cr
  all_goals have how := hC.ones
  all_goals have t0 : ∀ x, hget (C.set H.length x) H.length = x := fun x => hget_set_same (by omega) _
  all_goals have hheld : ∀ g2 : Int, held Tryd.prog [1] (C.set (H.length + 2) (some ⟨[u8 g2], true⟩)) [(1, HF.load 22 (.ptr (H.length + 4) 0) w)] := fun g2 => (by have := (hget_set_ne (show H.length + 2 ≠ H.length + 4 by omega) (some ⟨[u8 g2], true⟩)).trans cr; simp [held_cons, sem_load, held_nil, loadV_ptr, ty_22, this])
  all_goals clear hgU
  all_goals (repeat' first | (with_reducible (show W _ _ _ _ _); with_reducible refine go2 ?_) | (with_reducible (show W _ _ _ _ _); with_reducible refine sg2 ?_ ?_ <;> intro _) | (with_reducible (show W _ _ _ _ _); with_reducible refine sc2 ?_ ?_ <;> intro _) | (with_reducible (show CallK _ _ _ _ _ _ _ _ _ _ _); with_reducible refine ce2 (scale_spec hgB _ _) ?_) | (with_reducible (show W _ _ (.code (.region 12 _ true) :: _) _ _); with_reducible refine W_draw [(0, []), (1, []), (3, []), (4, []), (5, []), (2, [5]), (6, [5]), (7, []), (8, []), (9, [])] [5] (by kernel_rfl) ?_) | (with_reducible (show W _ _ (.code (.region 23 _ true) :: _) _ _); with_reducible refine W_draw [(0, []), (1, []), (2, []), (3, []), (4, [1]), (5, []), (6, []), (7, []), (8, [])] [1] (by kernel_rfl) ?_) | (first | (with_reducible (show CallK _ _ _ _ _ _ _ _ _ _ _); with_reducible refine cxh (cdiv_spec hin hgD _ cg) ?_; rintro u' H' ⟨rfl, rfl⟩; refine ⟨hheld _, ?_⟩) | (with_reducible (show AppK _ _ _ _ _ _ _ _ _ _); with_reducible refine app_gd (hC.met _) (by omega) hty (by simp) ?_; rintro v' C' hC'; have cr' := hC'.cr; have hcm := hC'.cells; have hon := hC'.ones)))
  all_goals first
    | (have hs2 : genL xs (k + 1) = _ := hs
       refine ⟨j - 1, by omega, k + 1, v', by omega, rfl, ?_⟩
       rw [hs2]
       exact hC'.put)
    | (have hk2 : k = xs.length - 1 := by omega
       subst hk2
       obtain ⟨px, cc, hw, hcl, hpx, l1, l2⟩ := hC.cv
       have hLx : (genL xs (xs.length - 1)).length = xs.length := by omega
       refine ⟨cc, px, by omega, ?_, by omega, (hget_set_ne (by omega) _).trans hpx, hC.old.setq _ (Nat.le_refl _)⟩
       rw [hw, hLx]; done)
    | trace_state
end Go.Proofs.YtcikcinkjbbnhaaDoor.M
