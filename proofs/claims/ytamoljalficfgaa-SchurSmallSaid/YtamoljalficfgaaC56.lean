/- schur.apart; a form's block of two let have the plain form. -/
import Derived.Test.YtamoljalficfgaaC53
import Derived.Test.YtamoljalficfgaaC16
import Derived.Test.YtamoljalficfgaaC44
set_option linter.unusedSimpArgs false
set_option linter.unusedVariables false
set_option pp.deepTerms false
set_option pp.maxSteps 1500
set_option maxRecDepth 10000
set_option maxHeartbeats 16000000
namespace Go.Proofs.Ytamoljalficfgaa.M
open Go Go.Proofs

def apartM (n : Int) (D : List Int) (k : Int) : Bool :=
  decide (absM (atM n n n D k (IntKind.i64.wrap (k - 1))) ≤ 4336966441157787648) ||
    !lessM (mulM 4368491638549381120 (addM (absM (atM n n n D (IntKind.i64.wrap (k - 1)) (IntKind.i64.wrap (k - 1)))) (absM (atM n n n D k k))).1).1 (absM (atM n n n D k (IntKind.i64.wrap (k - 1))))
theorem apart_spec {n : Int} {p z : Nat} {D : List Int} (h : MatOk n n D) (k : Int) {N : Nat} (hN : D.length = N) {H : MH} {rw : Bool} (hp : hget H p = some ⟨D.map u64, rw⟩) :
    Spec Try.prog 38 [mx n n n p N z, i64 k] H fun v H' => v = bl (apartM n D k) ∧ H' = H := by
  have hpl := lt_of_hget hp
  have hc : ∀ (x : Option MO) (g : Int) (L : MH), hget (H ++ x :: some ⟨[u8 g], true⟩ :: L) (H.length + 1) = some ⟨[u8 g], true⟩ := fun x g L => hget_newL rfl
  refine Spec.scalar (enterS Try.func38 [.tmp 4] ?_)
  repeat' first | (with_reducible (show W _ _ _ _ _); with_reducible refine go2 ?_) | (with_reducible (show W _ _ _ _ _); with_reducible refine sg2 ?_ ?_ <;> intro _) | (with_reducible (show W _ _ _ _ _); with_reducible refine sc2 ?_ ?_ <;> intro _) | (with_reducible (show CallK _ _ _ _ _ _ _ _ _ _ _); with_reducible refine ce2 (at_ok h _ _ ((hget_old hpl).trans hp) hN) ?_) | (with_reducible (show CallK _ _ _ _ _ _ _ _ _ _ _); with_reducible refine ce2 (abs_spec _ _) ?_) | (with_reducible (show CallK _ _ _ _ _ _ _ _ _ _ _); with_reducible refine ce2 (less_spec _ _ _) ?_) | (with_reducible (show W _ _ (.code (.region 3 _ true) :: _) _ _); with_reducible refine W_draw [(0, []), (1, []), (2, []), (3, []), (4, []), (7, []), (8, []), (9, []), (5, [7]), (6, [7]), (10, []), (11, []), (12, []), (13, [])] [7] (by kernel_rfl) ?_) | ((with_reducible (show CallK _ _ _ _ _ _ _ _ _ _ _); first | (with_reducible refine cm2 (cadd_spec (abs_in _) (abs_in _) _ (hc _ _ _)) ?_) | (with_reducible refine cm2 (cmul_spec _ _ _ (hc _ _ _)) ?_)))
  · rename_i h1
    simp only [apartM, decide_eq_false h1, Bool.false_or]
  · rename_i h1
    simp only [apartM, decide_eq_true h1, Bool.true_or]

/-- A form in memory. -/
structure Fm (n : Int) (N : Nat) (pw sw lf : Int) (D E : List Int) (q p p' : Nat) (C : MH) : Prop where
  f : hget C q = some ⟨[i64 n, i64 n, i64 n, .slice p 0 N N 1, i64 n, i64 n, i64 n, .slice p' 0 N N 1, i64 pw, i64 sw, i64 lf], true⟩
  d : hget C p = some ⟨D.map u64, true⟩
  e : hget C p' = some ⟨E.map u64, true⟩
  n1 : p ≠ p'
  n2 : q ≠ p
  n3 : q ≠ p'
theorem Fm.app {n : Int} {N : Nat} {pw sw lf : Int} {D E : List Int} {q p p' : Nat} {C : MH} (h : Fm n N pw sw lf D E q p p' C) (L : MH) : Fm n N pw sw lf D E q p p' (C ++ L) :=
  ⟨hget_appL h.f, hget_appL h.d, hget_appL h.e, h.n1, h.n2, h.n3⟩
theorem Fm.setD {n : Int} {N : Nat} {pw sw lf : Int} {D E : List Int} {q p p' : Nat} {C : MH} (h : Fm n N pw sw lf D E q p p' C) (D' : List Int) : Fm n N pw sw lf D' E q p p' (C.set p (some ⟨D'.map u64, true⟩)) :=
  ⟨(hget_set_ne (Ne.symm h.n2) _).trans h.f, hget_set_same (lt_of_hget h.d) _, (hget_set_ne h.n1 _).trans h.e, h.n1, h.n2, h.n3⟩
theorem Fm.setE {n : Int} {N : Nat} {pw sw lf : Int} {D E : List Int} {q p p' : Nat} {C : MH} (h : Fm n N pw sw lf D E q p p' C) (E' : List Int) : Fm n N pw sw lf D E' q p p' (C.set p' (some ⟨E'.map u64, true⟩)) :=
  ⟨(hget_set_ne (Ne.symm h.n3) _).trans h.f, (hget_set_ne (Ne.symm h.n1) _).trans h.d, hget_set_same (lt_of_hget h.e) _, h.n1, h.n2, h.n3⟩
/-- Nothing was changed but two objects. -/
def But (p p' : Nat) (H C : MH) : Prop := H.length ≤ C.length ∧ ∀ r, r < H.length → r ≠ p → r ≠ p' → C[r]? = H[r]?
theorem But.refl (p p' : Nat) (H : MH) : But p p' H H := ⟨Nat.le_refl _, fun _ _ _ _ => rfl⟩
theorem But.app {p p' : Nat} {H C : MH} (h : But p p' H C) (L : MH) : But p p' H (C ++ L) := ⟨by rw [List.length_append]; have := h.1; omega, fun r hr h1 h2 => by have := h.1; rw [List.getElem?_append_left (by omega)]; exact h.2 r hr h1 h2⟩
theorem But.setD {p p' : Nat} {H C : MH} (h : But p p' H C) (x : Option MO) : But p p' H (C.set p x) := ⟨by rw [List.length_set]; exact h.1, fun r hr h1 h2 => by rw [List.getElem?_set_ne (Ne.symm h1)]; exact h.2 r hr h1 h2⟩
theorem But.setE {p p' : Nat} {H C : MH} (h : But p p' H C) (x : Option MO) : But p p' H (C.set p' x) := ⟨by rw [List.length_set]; exact h.1, fun r hr h1 h2 => by rw [List.getElem?_set_ne (Ne.symm h2)]; exact h.2 r hr h1 h2⟩
theorem But.get {p p' : Nat} {H C : MH} (h : But p p' H C) {r : Nat} {o : MO} (hr : hget H r = some o) (h1 : r ≠ p) (h2 : r ≠ p') : hget C r = some o := by
  have := lt_of_hget hr
  unfold hget at hr ⊢
  rw [h.2 r this h1 h2]; exact hr

theorem at_set_eqQ {r c : Int} {D : List Int} (h : MatOk r c D) {i k : Nat} (hi : (i : Int) < r) (hk : (k : Int) < c) (b : Int) : atM r c c (setM r c c D i k b) i k = b := by
  rw [atM_in' (h.set _ _ _) hi hk, setM_in' h hi hk]
  have := place_lt h.r0 h.c0 hi hk
  rw [← h.len] at this
  simp [List.getD_eq_getElem?_getD, this]
theorem pair_in {n : Int} {D : List Int} (h : InD D) (c s i k i' k' : Int) : InD (pairM n c s i k i' k' D) := (h.setm _ _ _ _ _ (ofM_in _ _ _ _).1).setm _ _ _ _ _ (ofM_in _ _ _ _).2
theorem rows_in {n : Int} {D : List Int} (h : InD D) (c s a : Int) : ∀ m, InD (rowsM n c s a m D)
  | 0 => h
  | m + 1 => pair_in (rows_in h c s a m) _ _ _ _ _ _
theorem cols_in {n : Int} {D : List Int} (h : InD D) (c s a : Int) : ∀ m, InD (colsM n c s a m D)
  | 0 => h
  | m + 1 => pair_in (cols_in h c s a m) _ _ _ _ _ _
theorem turn_go {n : Int} {p q : Nat} {D E : List Int} (hD : MatOk n n D) (hE : MatOk n n E) (c s a : Int) (hin : 0 ≤ a ∧ a ≤ n - 2) {H : MH} (hp : hget H p = some ⟨D.map u64, true⟩) (hq : hget H q = some ⟨E.map u64, true⟩) (hpq : p ≠ q) {N : Nat} (hN : (n * n).toNat = N) :
    Spec Try.prog 68 [mx n n n p N N, mx n n n q N N, .agg [u64 c, u64 s], i64 a] H fun v H' => v = .tup [] ∧
      H' = (H.set p (some ⟨(colsM n c s a n.toNat (rowsM n c s a n.toNat D)).map u64, true⟩)).set q (some ⟨(colsM n c s a n.toNat E).map u64, true⟩) := by
  have := hD.r1
  have h := turn_spec hD hE c s a (by omega) hp hq hpq hN
  rw [if_pos hin] at h
  exact h
/-- The four numbers of a block. -/
def blkL (n : Int) (D : List Int) (a : Nat) : List Int := [atM n n n D a a, atM n n n D a ((a + 1 : Nat) : Int), atM n n n D ((a + 1 : Nat) : Int) a, atM n n n D ((a + 1 : Nat) : Int) ((a + 1 : Nat) : Int)]
def blkP (n : Int) (D : List Int) (a : Nat) : Bool := plainM (atM n n n D a a) (atM n n n D a ((a + 1 : Nat) : Int)) (atM n n n D ((a + 1 : Nat) : Int) a) (atM n n n D ((a + 1 : Nat) : Int) ((a + 1 : Nat) : Int))
theorem two_spec {n : Int} {N : Nat} {pw sw lf : Int} {S : List Int × List Int} {q p p' : Nat} {H : MH} (hS : SqOk n S) (hn8 : n ≤ 90) (hN : (n * n).toNat = N) (hF : Fm n N pw sw lf S.1 S.2 q p p' H) {a : Nat} (ha : ((a + 1 : Nat) : Int) < n) :
    Spec Try.prog 39 [.ptr q 0, i64 (a : Int)] H fun v H' => v = .tup [] ∧ But p p' H H' ∧ ∃ T : List Int × List Int, SqOk n T ∧ (finL (blkL n S.1 a) = true → blkP n T.1 a = true) ∧ Fm n N pw sw lf T.1 T.2 q p p' H' := by
  have hl1 : S.1.length = N := hS.a.len.trans hN
  have hql := lt_of_hget hF.f
  have hpl := lt_of_hget hF.d
  have hpl' := lt_of_hget hF.e
  have e1 : IntKind.i64.wrap ((a : Int) + 1) = ((a + 1 : Nat) : Int) := by rw [wrap_i64 (by omega)]; omega
  have hf := hF.f
  have hfL : ∀ L : MH, hget (H ++ L) q = some ⟨[i64 n, i64 n, i64 n, .slice p 0 N N 1, i64 n, i64 n, i64 n, .slice p' 0 N N 1, i64 pw, i64 sw, i64 lf], true⟩ := fun L => hget_appL hf
  have hdL : ∀ L : MH, hget (H ++ L) p = some ⟨S.1.map u64, true⟩ := fun L => hget_appL hF.d
  have hI := fun i k => atM_in hS.b n n n i k
  refine enterS Try.func39 [] ?_
  cases hfin : finL (blkL n S.1 a)
  · have hstd := fun H => std_bad _ _ _ _ hfin H
    repeat' first | (with_reducible (show W _ _ _ _ _); with_reducible refine go2 ?_) | (with_reducible (show W _ _ _ _ _); with_reducible refine sg2 ?_ ?_ <;> intro _) | (with_reducible (show W _ _ _ _ _); with_reducible refine sc2 ?_ ?_ <;> intro _) | (with_reducible (show CallK _ _ _ _ _ _ _ _ _ _ _); with_reducible refine ce2 (at_ok hS.a _ _ (hdL _) hl1) ?_) | (with_reducible (show CallK _ _ _ _ _ _ _ _ _ _ _); with_reducible refine ce2 (hstd _) ?_) | (with_reducible (show W _ _ (.code (.region 0 _ true) :: _) _ _); with_reducible refine W_draw [(0, []), (1, []), (2, []), (3, []), (4, []), (5, []), (7, []), (8, []), (9, []), (10, []), (11, []), (12, []), (13, []), (15, []), (16, []), (17, []), (18, []), (19, []), (20, []), (21, []), (23, []), (24, []), (25, []), (26, []), (27, []), (28, []), (29, []), (30, []), (33, []), (6, [10, 18, 26, 33]), (14, [18, 26, 33]), (22, [26, 33]), (31, [33]), (32, []), (34, [])] [10, 18, 26, 33] (by kernel_rfl) ?_) | (with_reducible (show W _ _ (.code (.region 3 _ true) :: _) _ _); with_reducible refine W_draw [(0, []), (1, []), (2, []), (3, []), (4, []), (5, []), (6, []), (7, []), (8, []), (9, []), (10, [])] [] (by kernel_rfl) ?_) | (with_reducible (show W _ _ (.code (.region 4 _ true) :: _) _ _); with_reducible refine W_draw [(0, []), (1, []), (2, []), (3, []), (4, []), (5, []), (6, []), (7, []), (8, [])] [] (by kernel_rfl) ?_) | (with_reducible (show W _ _ (.code (.region 5 _ true) :: _) _ _); with_reducible refine W_draw [(0, []), (1, []), (2, []), (3, []), (4, []), (5, []), (6, []), (7, []), (8, []), (9, [])] [] (by kernel_rfl) ?_) | (with_reducible (show W _ _ (.code (.region 6 _ true) :: _) _ _); with_reducible refine W_draw [(0, []), (1, []), (2, []), (3, []), (4, []), (5, []), (6, []), (7, []), (8, []), (9, [])] [] (by kernel_rfl) ?_) | (with_reducible (show W _ _ (.code (.region 7 _ true) :: _) _ _); with_reducible refine W_draw [(0, []), (1, []), (2, []), (3, []), (4, []), (5, []), (6, []), (7, []), (8, []), (9, []), (10, [])] [] (by kernel_rfl) ?_)
    exact ⟨(But.refl _ _ _).app _, S, hS, hF.app _⟩
  · have hstd := fun H => std_spec (hI _ _) (hI _ _) (hI _ _) (hI _ _) hfin H
    repeat' first | (with_reducible (show W _ _ _ _ _); with_reducible refine go2 ?_) | (with_reducible (show W _ _ _ _ _); with_reducible refine sg2 ?_ ?_ <;> intro _) | (with_reducible (show W _ _ _ _ _); with_reducible refine sc2 ?_ ?_ <;> intro _) | (with_reducible (show CallK _ _ _ _ _ _ _ _ _ _ _); with_reducible refine ce2 (at_ok hS.a _ _ (hdL _) hl1) ?_) | (with_reducible (show W _ _ (.code (.region 0 _ true) :: _) _ _); with_reducible refine W_draw [(0, []), (1, []), (2, []), (3, []), (4, []), (5, []), (7, []), (8, []), (9, []), (10, []), (11, []), (12, []), (13, []), (15, []), (16, []), (17, []), (18, []), (19, []), (20, []), (21, []), (23, []), (24, []), (25, []), (26, []), (27, []), (28, []), (29, []), (30, []), (33, []), (6, [10, 18, 26, 33]), (14, [18, 26, 33]), (22, [26, 33]), (31, [33]), (32, []), (34, [])] [10, 18, 26, 33] (by kernel_rfl) ?_) | (with_reducible (show W _ _ (.code (.region 3 _ true) :: _) _ _); with_reducible refine W_draw [(0, []), (1, []), (2, []), (3, []), (4, []), (5, []), (6, []), (7, []), (8, []), (9, []), (10, [])] [] (by kernel_rfl) ?_) | (with_reducible (show W _ _ (.code (.region 4 _ true) :: _) _ _); with_reducible refine W_draw [(0, []), (1, []), (2, []), (3, []), (4, []), (5, []), (6, []), (7, []), (8, [])] [] (by kernel_rfl) ?_) | (with_reducible (show W _ _ (.code (.region 5 _ true) :: _) _ _); with_reducible refine W_draw [(0, []), (1, []), (2, []), (3, []), (4, []), (5, []), (6, []), (7, []), (8, []), (9, [])] [] (by kernel_rfl) ?_) | (with_reducible (show W _ _ (.code (.region 6 _ true) :: _) _ _); with_reducible refine W_draw [(0, []), (1, []), (2, []), (3, []), (4, []), (5, []), (6, []), (7, []), (8, []), (9, [])] [] (by kernel_rfl) ?_) | (with_reducible (show W _ _ (.code (.region 7 _ true) :: _) _ _); with_reducible refine W_draw [(0, []), (1, []), (2, []), (3, []), (4, []), (5, []), (6, []), (7, []), (8, []), (9, []), (10, [])] [] (by kernel_rfl) ?_) | ((with_reducible (show CallK _ _ _ _ _ _ _ _ _ _ _); with_reducible refine ck2 (hstd _) ?_))
    rintro ⟨⟨tc, ts⟩, ⟨s0, s1, s2, s3⟩, f⟩ ⟨⟨⟨i1, i2⟩, i3, i4, i5, i6⟩, hpl4⟩
    dsimp only at i1 i2 i3 i4 i5 i6 hpl4 ⊢
    obtain ⟨T, hT1, hT2⟩ : ∃ T : List Int × List Int, colsM n tc ts a n.toNat (rowsM n tc ts a n.toNat S.1) = T.1 ∧ colsM n tc ts a n.toNat S.2 = T.2 := ⟨(_, _), rfl, rfl⟩
    have hT : SqOk n T := ⟨by rw [← hT1]; exact cols_ok (rows_ok hS.a _ _ _ _) _ _ _ _, by rw [← hT1]; exact cols_in (rows_in hS.b _ _ _ _) _ _ _ _, by rw [← hT2]; exact cols_ok hS.c _ _ _ _, by rw [← hT2]; exact cols_in hS.d _ _ _ _⟩
    have hturn := fun L => turn_go hS.a hS.c tc ts a (by omega) (hdL L) (hget_appL hF.e) hF.n1 hN
    rw [hT1, hT2] at hturn
    obtain ⟨H2, hH2⟩ : ∃ H2, (H.set p (some ⟨T.1.map u64, true⟩)).set p' (some ⟨T.2.map u64, true⟩) = H2 := ⟨_, rfl⟩
    have hF2 : Fm n N pw sw lf T.1 T.2 q p p' H2 := by rw [← hH2]; exact (hF.setD T.1).setE T.2
    have hB2 : But p p' H H2 := by rw [← hH2]; exact ((But.refl p p' H).setD _).setE _
    have hlen2 : H2.length = H.length := by rw [← hH2]; simp
    have hpl2 : p < H2.length := by omega
    have hql2 : q < H2.length := by omega
    have hTN := hT.a.len.trans hN
    clear hT1 hT2 hstd
    have ha0 : (a : Int) < n := by omega
    have hq2 : ∀ L : MH, hget (H2 ++ L) q = some ⟨[i64 n, i64 n, i64 n, .slice p 0 N N 1, i64 n, i64 n, i64 n, .slice p' 0 N N 1, i64 pw, i64 sw, i64 lf], true⟩ := fun L => hget_appL hF2.f
    have hq3 : ∀ X (L : MH), hget (H2.set p X ++ L) q = some ⟨[i64 n, i64 n, i64 n, .slice p 0 N N 1, i64 n, i64 n, i64 n, .slice p' 0 N N 1, i64 pw, i64 sw, i64 lf], true⟩ := fun X L => by rw [hget_old (by rw [len_set]; exact hql2), hget_set_ne (Ne.symm hF2.n2)]; exact hF2.f
    have d1 := hT.a.set a a s0
    have d2 := d1.set a ((a + 1 : Nat) : Int) s1
    have d3 := d2.set ((a + 1 : Nat) : Int) a s2
    have k1 := hT.b.setm n n n a a i3
    have k2 := k1.setm n n n a ((a + 1 : Nat) : Int) i4
    have k3 := k2.setm n n n ((a + 1 : Nat) : Int) a i5
    have k4 := k3.setm n n n ((a + 1 : Nat) : Int) ((a + 1 : Nat) : Int) i6
    have l1 := d1.len.trans hN
    have l2 := d2.len.trans hN
    have l3 := d3.len.trans hN
    repeat' first | (with_reducible (show W _ _ _ _ _); with_reducible refine go2 ?_) | (with_reducible (show W _ _ _ _ _); with_reducible refine sg2 ?_ ?_ <;> intro _) | (with_reducible (show W _ _ _ _ _); with_reducible refine sc2 ?_ ?_ <;> intro _) | (with_reducible (show W _ _ (.code (.region 0 _ true) :: _) _ _); with_reducible refine W_draw [(0, []), (1, []), (2, []), (3, []), (4, []), (5, []), (7, []), (8, []), (9, []), (10, []), (11, []), (12, []), (13, []), (15, []), (16, []), (17, []), (18, []), (19, []), (20, []), (21, []), (23, []), (24, []), (25, []), (26, []), (27, []), (28, []), (29, []), (30, []), (33, []), (6, [10, 18, 26, 33]), (14, [18, 26, 33]), (22, [26, 33]), (31, [33]), (32, []), (34, [])] [10, 18, 26, 33] (by kernel_rfl) ?_) | (with_reducible (show W _ _ (.code (.region 3 _ true) :: _) _ _); with_reducible refine W_draw [(0, []), (1, []), (2, []), (3, []), (4, []), (5, []), (6, []), (7, []), (8, []), (9, []), (10, [])] [] (by kernel_rfl) ?_) | (with_reducible (show W _ _ (.code (.region 4 _ true) :: _) _ _); with_reducible refine W_draw [(0, []), (1, []), (2, []), (3, []), (4, []), (5, []), (6, []), (7, []), (8, [])] [] (by kernel_rfl) ?_) | (with_reducible (show W _ _ (.code (.region 5 _ true) :: _) _ _); with_reducible refine W_draw [(0, []), (1, []), (2, []), (3, []), (4, []), (5, []), (6, []), (7, []), (8, []), (9, [])] [] (by kernel_rfl) ?_) | (with_reducible (show W _ _ (.code (.region 6 _ true) :: _) _ _); with_reducible refine W_draw [(0, []), (1, []), (2, []), (3, []), (4, []), (5, []), (6, []), (7, []), (8, []), (9, [])] [] (by kernel_rfl) ?_) | (with_reducible (show W _ _ (.code (.region 7 _ true) :: _) _ _); with_reducible refine W_draw [(0, []), (1, []), (2, []), (3, []), (4, []), (5, []), (6, []), (7, []), (8, []), (9, []), (10, [])] [] (by kernel_rfl) ?_) | ((with_reducible (show CallK _ _ _ _ _ _ _ _ _ _ _); first | (with_reducible refine cm2 (hturn _) ?_) | (with_reducible refine cm2 (set_ok hT.a _ _ _ (hget_appL hF2.d) hTN) ?_) | (with_reducible refine cm2 (set_ok d1 _ _ _ (hget_sa hpl2) l1) ?_) | (with_reducible refine cm2 (set_ok d2 _ _ _ (hget_sa hpl2) l2) ?_) | (with_reducible refine cm2 (set_ok d3 _ _ _ (hget_sa hpl2) l3) ?_)))
    refine ⟨(hB2.setD _).app _, (setM n n n (setM n n n (setM n n n (setM n n n T.1 a a s0) a ((a + 1 : Nat) : Int) s1) ((a + 1 : Nat) : Int) a s2) ((a + 1 : Nat) : Int) ((a + 1 : Nat) : Int) s3, T.2), ⟨d3.set _ _ _, k4, hT.c, hT.d⟩, ?_, (hF2.setD _).app _⟩
    unfold blkP
    dsimp only
    rw [at_set_eqQ d3 ha ha, at_set_ne d3 ha ha ha ha0 (by omega), at_set_eqQ d2 ha ha0, at_set_ne d3 ha ha ha0 ha (by omega), at_set_ne d2 ha ha0 ha0 ha (by omega), at_set_eqQ d1 ha0 ha,
      at_set_ne d3 ha ha ha0 ha0 (by omega), at_set_ne d2 ha ha0 ha0 ha0 (by omega), at_set_ne d1 ha0 ha ha0 ha0 (by omega), at_set_eqQ hT.a ha0 ha0]
    exact hpl4
end Go.Proofs.Ytamoljalficfgaa.M

/- sweep.Sweep: it ends; what it answers are squares of numbers. -/
set_option linter.unusedSimpArgs false
set_option linter.unusedVariables false
set_option pp.deepTerms false
set_option pp.maxSteps 1500
set_option maxRecDepth 10000
set_option maxHeartbeats 16000000
namespace Go.Proofs.Ytamoljalficfgaa.M
open Go Go.Proofs

theorem W_mem {P : Program} {Q : MQ} {k : List It} {ρ : Env} {H : MH} (S : MH → Prop) (hS : S H) (h : ∀ C, S C → W P Q k ρ C) : W P Q k ρ H := h H hS
/-- Either a closed answer, or two of the new objects are kept. -/
theorem Spec.twoE {P : Program} {f : FuncId} {args : List MV} {H : MH} {T : Type} {G : T → Prop} {v : Nat → Nat → MV} {cs ds : T → List MV} {E : Int → Prop} {w : Int → MV} (hcs : ∀ t, ∀ c ∈ cs t, Cl 0 [] c) (hds : ∀ t, ∀ c ∈ ds t, Cl 0 [] c) (hw : ∀ e, Cl 0 [] (w e)) (hv : ∀ p p', Cl H.length [p, p'] (v p p'))
    (hr : ∀ π p p', H.length ≤ p → H.length ≤ p' → ren π (v p p') = v (π p) (π p'))
    (h : Spec P f args H fun u H' => (∃ e, E e ∧ u = w e ∧ Old H H') ∨ ∃ t p p', G t ∧ u = v p p' ∧ p ≠ p' ∧ H.length ≤ p ∧ H.length ≤ p' ∧ hget H' p = some ⟨cs t, true⟩ ∧ hget H' p' = some ⟨ds t, true⟩ ∧ Old H H') :
    Spec P f args H fun u H' => (∃ e, E e ∧ u = w e ∧ H' = H) ∨ ∃ t, G t ∧ u = v H.length (H.length + 1) ∧ H' = H ++ [some ⟨cs t, true⟩, some ⟨ds t, true⟩] := by
  refine Spec.gc h ?_
  rintro u H1 (⟨e, he, rfl, hold⟩ | ⟨t, p, p', hG, rfl, hne, hp, hp', hg, hg', hold⟩)
  · obtain ⟨J, rfl⟩ := hold.junk
    exact ⟨H, J, [], rfl, rfl, List.nodup_nil, by simp, fun p o ho => .inl ho, by simp, cl_mono (Nat.zero_le _) _ (hw e), .inl ⟨e, he, ren_free _ (hw e), by simp⟩⟩
  · obtain ⟨J, rfl⟩ := hold.junk
    have hk : keep H.length [p, p'] p = H.length := by
      unfold keep
      rw [if_neg (by omega)]
      simp
    have hk' : keep H.length [p, p'] p' = H.length + 1 := by
      unfold keep
      rw [if_neg (by omega)]
      have : (p == p') = false := by simp; omega
      simp [List.idxOf_cons, this]
    refine ⟨H, J, [p, p'], rfl, rfl, by simp; omega, by simp; omega, fun p o ho => .inl ho, ?_, hv _ _, .inr ⟨t, hG, ?_, ?_⟩⟩
    · intro x hx o ho c hc
      simp only [List.mem_cons, List.not_mem_nil, or_false] at hx
      rcases hx with rfl | rfl
      · rw [hg] at ho
        cases ho
        exact cl_more (cl_more (cl_mono (Nat.zero_le H.length) c (hcs t c hc)))
      · rw [hg'] at ho
        cases ho
        exact cl_more (cl_more (cl_mono (Nat.zero_le H.length) c (hds t c hc)))
    · rw [hr _ _ _ (by omega) (by omega), hk, hk']
    · simp only [List.map_cons, List.map_nil, keptO, hg, hg', Option.map_some]
      congr 3
      · congr 1
        exact (List.map_congr_left fun c hc => ren_free c (hcs t c hc)).trans (List.map_id' _)
      · congr 3
        exact (List.map_congr_left fun c hc => ren_free c (hds t c hc)).trans (List.map_id' _)

theorem window_spec {n : Int} {p p' z z' : Nat} {S : List Int × List Int} (hS : SqOk n S) {N : Nat} (hN : (n * n).toNat = N) {lo hi : Int} (hlo : 0 ≤ lo ∧ lo ≤ 100) (hhi : 0 ≤ hi ∧ hi ≤ 100) {H : MH} {rw rw' : Bool} (hp : hget H p = some ⟨S.1.map u64, rw⟩) (hp' : hget H p' = some ⟨S.2.map u64, rw'⟩) :
    Spec Try.prog 69 [mx n n n p N z, mx n n n p' N z', i64 lo, i64 hi] H fun v H' => ∃ e : Int, (e = 0 → hi ≤ n ∧ lo ≤ hi - 3) ∧ v = i64 e ∧ H' = H := by
  have h1 := hS.a.len.trans hN
  have h2 := hS.c.len.trans hN
  have hd : ∀ L, hget (H ++ L) p = some ⟨S.1.map u64, rw⟩ := fun L => hget_appL hp
  have hd' : ∀ L, hget (H ++ L) p' = some ⟨S.2.map u64, rw'⟩ := fun L => hget_appL hp'
  have e3 : IntKind.i64.wrap (hi - 3) = hi - 3 := wrap_i64 (by omega)
  refine Spec.scalarE (G := fun e : Int => e = 0 → hi ≤ n ∧ lo ≤ hi - 3) (r := fun e => i64 e) (enterS Try.func69 [.tmp 8] ?_)
  repeat' first | (with_reducible (show W _ _ _ _ _); with_reducible refine go2 ?_) | (with_reducible (show W _ _ _ _ _); with_reducible refine sg2 ?_ ?_ <;> intro _) | (with_reducible (show W _ _ _ _ _); with_reducible refine sc2 ?_ ?_ <;> intro _) | (with_reducible (show CallK _ _ _ _ _ _ _ _ _ _ _); with_reducible refine ce2 (check_ok hS.a h1 _) ?_) | (with_reducible (show CallK _ _ _ _ _ _ _ _ _ _ _); with_reducible refine ce2 (check_ok hS.c h2 _) ?_) | (with_reducible (show CallK _ _ _ _ _ _ _ _ _ _ _); with_reducible refine ce2 (finite_mspec hS.a h1 (hd _)) ?_) | (with_reducible (show CallK _ _ _ _ _ _ _ _ _ _ _); with_reducible refine ce2 (finite_mspec hS.c h2 (hd' _)) ?_) | (with_reducible (show CallK _ _ _ _ _ _ _ _ _ _ _); with_reducible refine ce2 (is_spec hS.a h1 (hd _)) ?_)
  all_goals first
    | exact ⟨6, fun h => absurd h (by decide), rfl⟩
    | exact ⟨1, fun h => absurd h (by decide), rfl⟩
    | exact ⟨0, fun _ => ⟨by omega, by omega⟩, rfl⟩
    | trace_state
/-- The memory of sweep.Sweep. -/
structure Sw (H : MH) (n : Int) (N : Nat) (D E : List Int) (C : MH) (p p' : Nat) : Prop where
  old : Old H C
  b5 : hget C H.length = some ⟨[i64 n, i64 n, i64 n, .slice p 0 N N 1], true⟩
  b6 : hget C (H.length + 1) = some ⟨[i64 n, i64 n, i64 n, .slice p' 0 N N 1], true⟩
  r10 : hget C (H.length + 3) = some ⟨[i64 0, i64 0, i64 0, nils], true⟩
  r11 : hget C (H.length + 4) = some ⟨[i64 0, i64 0, i64 0, nils], true⟩
  d : hget C p = some ⟨D.map u64, true⟩
  e : hget C p' = some ⟨E.map u64, true⟩
  ne : p ≠ p'
  l1 : H.length + 4 < p
  l2 : H.length + 4 < p'
theorem Sw.app {H : MH} {n : Int} {N : Nat} {D E : List Int} {C : MH} {p p' : Nat} (h : Sw H n N D E C p p') (L : MH) : Sw H n N D E (C ++ L) p p' :=
  ⟨h.old.app _, hget_appL h.b5, hget_appL h.b6, hget_appL h.r10, hget_appL h.r11, hget_appL h.d, hget_appL h.e, h.ne, h.l1, h.l2⟩
theorem Sw.olds {H : MH} {n : Int} {N : Nat} {D E : List Int} {B C : MH} {p p' : Nat} (h : Sw H n N D E B p p') (hC : Olds B C) : Sw H n N D E C p p' :=
  ⟨⟨Nat.le_trans h.old.1 hC.1, fun q hq => (hC.2 q (Nat.lt_of_lt_of_le hq h.old.1)).trans (h.old.2 q hq)⟩, hC.get h.b5, hC.get h.b6, hC.get h.r10, hC.get h.r11, hC.get h.d, hC.get h.e, h.ne, h.l1, h.l2⟩
theorem Sw.setD {H : MH} {n : Int} {N : Nat} {D D' E : List Int} {C : MH} {p p' : Nat} (h : Sw H n N D E C p p') : Sw H n N D' E (C.set p (some ⟨D'.map u64, true⟩)) p p' := by
  have l1 := h.l1
  exact ⟨h.old.setq _ (by omega), (hget_set_ne (by omega) _).trans h.b5, (hget_set_ne (by omega) _).trans h.b6, (hget_set_ne (by omega) _).trans h.r10, (hget_set_ne (by omega) _).trans h.r11, hget_set_same (lt_of_hget h.d) _, (hget_set_ne h.ne _).trans h.e, h.ne, h.l1, h.l2⟩

/-- The list that is to be reflected next: its length, its numbers. -/
def Wl (C : MH) (m : Nat) (v : MV) : Prop := ∃ px c ws, v = .slice px 0 m c 1 ∧ m ≤ c ∧ hget C px = some ⟨ws.map u64, true⟩ ∧ ws.length = m ∧ InD ws
theorem Wl3 {C : MH} {q : Nat} {x y z : Int} (h : hget C q = some ⟨[u64 x, u64 y, u64 z], true⟩) (hx : InU x) (hy : InU y) (hz : InU z) : Wl C 3 (.slice q 0 3 3 1) :=
  ⟨q, 3, [x, y, z], rfl, Nat.le_refl _, h, rfl, fun a ha => by
    simp only [List.mem_cons, List.not_mem_nil, or_false] at ha
    rcases ha with rfl | rfl | rfl <;> assumption⟩
theorem sweep_spec {n : Int} {p p' z z' : Nat} {S : List Int × List Int} (hS : SqOk n S) (hn8 : n ≤ 90) {N : Nat} (hN : (n * n).toNat = N) {lo hi : Nat} (hlo : lo ≤ 100) (hhi : hi ≤ 100) {s1 s2 : Int} (hs1 : InU s1) (hs2 : InU s2) {H : MH} (hp : hget H p = some ⟨S.1.map u64, true⟩) (hp' : hget H p' = some ⟨S.2.map u64, true⟩) :
    Spec Try.prog 42 [mx n n n p N z, mx n n n p' N z', i64 (lo : Int), i64 (hi : Int), .agg [u64 s1, u64 s2]] H fun u H' => (∃ e : Int, ¬ e = 0 ∧ u = .tup [mx0, mx0, i64 e] ∧ H' = H) ∨
      ∃ T : List Int × List Int, SqOk n T ∧ u = .tup [mx n n n H.length N N, mx n n n (H.length + 1) N N, i64 0] ∧ H' = H ++ [some ⟨T.1.map u64, true⟩, some ⟨T.2.map u64, true⟩] := by
  have hl1 : S.1.length = N := hS.a.len.trans hN
  have hl2 : S.2.length = N := hS.c.len.trans hN
  have hpl := lt_of_hget hp
  have hpl' := lt_of_hget hp'
  refine Spec.twoE (G := SqOk n) (v := fun p p' => .tup [mx n n n p N N, mx n n n p' N N, i64 0]) (cs := fun T => T.1.map u64) (ds := fun T => T.2.map u64) (E := fun e => ¬ e = 0) (w := fun e => .tup [mx0, mx0, i64 e]) (fun _ => closed_u64 _) (fun _ => closed_u64 _) (fun e => by simp [Cl, Cls']) (fun p p' => by simp [Cl, Cls']) (fun π p p' _ _ => by simp [ren, rens]) ?_
  refine enterS Try.func42 [.cell 10 26, .cell 11 26, .tmp 12] ?_
  have hd : ∀ L, hget (H ++ L) p = some ⟨S.1.map u64, true⟩ := fun L => hget_appL hp
  have hd' : ∀ L, hget (H ++ L) p' = some ⟨S.2.map u64, true⟩ := fun L => hget_appL hp'
  have hI := fun i k => atM_in hS.b n n n i k
  have hcell : ∀ (x1 x2 x3 x4 x5 : Option MO) (g : Int) (L : MH), hget (H ++ x1 :: x2 :: x3 :: x4 :: x5 :: some ⟨[u8 g], true⟩ :: L) (H.length + 5) = some ⟨[u8 g], true⟩ := fun x1 x2 x3 x4 x5 g L => hget_newL rfl
  repeat' first | (with_reducible (show W _ _ _ _ _); with_reducible refine go2 ?_) | (with_reducible (show W _ _ _ _ _); with_reducible refine sg2 ?_ ?_ <;> intro _) | (with_reducible (show W _ _ (.code (.region 5 _ true) :: _) _ _); with_reducible refine W_draw [(0, []), (1, []), (2, []), (4, []), (5, []), (6, []), (7, []), (9, []), (10, []), (11, []), (12, []), (3, [4, 9]), (8, [9]), (13, []), (14, []), (15, []), (16, [])] [4, 9] (by kernel_rfl) ?_) | (with_reducible (show W _ _ (.code (.region 6 _ true) :: _) _ _); with_reducible refine W_draw [(0, []), (1, []), (2, []), (3, []), (6, []), (7, []), (9, []), (10, []), (4, [7]), (5, [7]), (8, []), (11, []), (12, []), (13, [])] [7] (by kernel_rfl) ?_) | (with_reducible (show W _ _ (.code (.region 7 _ true) :: _) _ _); with_reducible refine W_draw [(0, []), (1, []), (2, []), (3, []), (4, []), (5, []), (6, []), (9, []), (10, []), (7, [10]), (8, [10]), (11, []), (12, []), (13, [])] [10] (by kernel_rfl) ?_) | (with_reducible (show W _ _ (.code (.region 9 _ true) :: _) _ _); with_reducible refine W_draw [(0, []), (2, []), (1, [2]), (3, []), (4, []), (5, [])] [2] (by kernel_rfl) ?_) | (with_reducible (show W _ _ (.code (.region 29 _ true) :: _) _ _); with_reducible refine W_draw [(0, []), (1, []), (2, [1]), (3, []), (4, [])] [1] (by kernel_rfl) ?_) | ((with_reducible (show CallK _ _ _ _ _ _ _ _ _ _ _); with_reducible refine ck2 (window_spec hS hN ⟨by omega, by omega⟩ ⟨by omega, by omega⟩ (hd _) (hd' _)) ?_; intro ew hew))
  refine sc2 ?_ ?_ <;> intro he
  · repeat' first | (with_reducible (show W _ _ _ _ _); with_reducible refine go2 ?_) | (with_reducible (show W _ _ _ _ _); with_reducible refine sg2 ?_ ?_ <;> intro _) | (with_reducible (show W _ _ _ _ _); with_reducible refine sc2 ?_ ?_ <;> intro _) | (with_reducible (show W _ _ (.code (.region 5 _ true) :: _) _ _); with_reducible refine W_draw [(0, []), (1, []), (2, []), (4, []), (5, []), (6, []), (7, []), (9, []), (10, []), (11, []), (12, []), (3, [4, 9]), (8, [9]), (13, []), (14, []), (15, []), (16, [])] [4, 9] (by kernel_rfl) ?_) | (with_reducible (show W _ _ (.code (.region 6 _ true) :: _) _ _); with_reducible refine W_draw [(0, []), (1, []), (2, []), (3, []), (6, []), (7, []), (9, []), (10, []), (4, [7]), (5, [7]), (8, []), (11, []), (12, []), (13, [])] [7] (by kernel_rfl) ?_) | (with_reducible (show W _ _ (.code (.region 7 _ true) :: _) _ _); with_reducible refine W_draw [(0, []), (1, []), (2, []), (3, []), (4, []), (5, []), (6, []), (9, []), (10, []), (7, [10]), (8, [10]), (11, []), (12, []), (13, [])] [10] (by kernel_rfl) ?_) | (with_reducible (show W _ _ (.code (.region 9 _ true) :: _) _ _); with_reducible refine W_draw [(0, []), (2, []), (1, [2]), (3, []), (4, []), (5, [])] [2] (by kernel_rfl) ?_) | (with_reducible (show W _ _ (.code (.region 29 _ true) :: _) _ _); with_reducible refine W_draw [(0, []), (1, []), (2, [1]), (3, []), (4, [])] [1] (by kernel_rfl) ?_)
    exact .inl ⟨ew, he, rfl, (Old.refl H).app _⟩
  obtain ⟨w1, w2⟩ := hew he
  clear hew he
  have e1 : IntKind.i64.wrap ((lo : Int) + 1) = ((lo + 1 : Nat) : Int) := by rw [wrap_i64 (by omega)]; omega
  have e2 : IntKind.i64.wrap ((lo : Int) + 2) = ((lo + 2 : Nat) : Int) := by rw [wrap_i64 (by omega)]; omega
  have hb3 : ∀ x y z : Int, bsV (.slice 1 8 (some [.int .u64 0]) true) 3 [(0, u64 x), (1, u64 y), (2, u64 z)] = some ([u64 x, u64 y, u64 z], 1) := fun _ _ _ => _root_.id rfl
  repeat' first | (with_reducible (show W _ _ _ _ _); with_reducible refine go2 ?_) | (with_reducible (show W _ _ _ _ _); with_reducible refine sg2 ?_ ?_ <;> intro _) | (with_reducible (show CallK _ _ _ _ _ _ _ _ _ _ _); with_reducible refine ce2 (at_ok hS.a _ _ (hd _) hl1) ?_) | (with_reducible (show W _ _ (.code (.region 5 _ true) :: _) _ _); with_reducible refine W_draw [(0, []), (1, []), (2, []), (4, []), (5, []), (6, []), (7, []), (9, []), (10, []), (11, []), (12, []), (3, [4, 9]), (8, [9]), (13, []), (14, []), (15, []), (16, [])] [4, 9] (by kernel_rfl) ?_) | (with_reducible (show W _ _ (.code (.region 6 _ true) :: _) _ _); with_reducible refine W_draw [(0, []), (1, []), (2, []), (3, []), (6, []), (7, []), (9, []), (10, []), (4, [7]), (5, [7]), (8, []), (11, []), (12, []), (13, [])] [7] (by kernel_rfl) ?_) | (with_reducible (show W _ _ (.code (.region 7 _ true) :: _) _ _); with_reducible refine W_draw [(0, []), (1, []), (2, []), (3, []), (4, []), (5, []), (6, []), (9, []), (10, []), (7, [10]), (8, [10]), (11, []), (12, []), (13, [])] [10] (by kernel_rfl) ?_) | (with_reducible (show W _ _ (.code (.region 9 _ true) :: _) _ _); with_reducible refine W_draw [(0, []), (2, []), (1, [2]), (3, []), (4, []), (5, [])] [2] (by kernel_rfl) ?_) | (with_reducible (show W _ _ (.code (.region 29 _ true) :: _) _ _); with_reducible refine W_draw [(0, []), (1, []), (2, [1]), (3, []), (4, [])] [1] (by kernel_rfl) ?_) | ((with_reducible (show CallK _ _ _ _ _ _ _ _ _ _ _); first | (with_reducible refine cq2 (csub_spec (by first | assumption | exact hI _ _ | exact hs1 | exact hs2) _ _ (hcell _ _ _ _ _ _ _)) (addM_in (by first | assumption | exact hI _ _ | exact hs1 | exact hs2) (flip_in _)) ?_; intro r g hr) | (with_reducible refine cq2 (cmul_spec _ _ _ (hcell _ _ _ _ _ _ _)) (mulM_in _ _) ?_; intro r g hr) | (with_reducible refine cq2 (cadd_spec (by first | assumption | exact hI _ _ | exact hs1 | exact hs2) (by first | assumption | exact hI _ _ | exact hs1 | exact hs2) _ (hcell _ _ _ _ _ _ _)) (addM_in (by first | assumption | exact hI _ _ | exact hs1 | exact hs2) (by first | assumption | exact hI _ _ | exact hs1 | exact hs2)) ?_; intro r g hr) | (with_reducible refine cm2 (clone_spec hS.a hl1 (hd _)) ?_) | (with_reducible refine cm2 (clone_spec hS.c hl2 (hd' _)) ?_)))
  refine W_for (fun j ρ C => ∃ (k p1 p2 : Nat) (T : List Int × List Int), lo ≤ k ∧ k ≤ hi ∧ k + j = hi ∧ SqOk n T ∧ ρ 2 = i64 (lo : Int) ∧ ρ 3 = i64 (hi : Int) ∧ ρ 5 = .ptr H.length 0 ∧ ρ 6 = .ptr (H.length + 1) 0 ∧ ρ 10 = .ptr (H.length + 3) 0 ∧ ρ 11 = .ptr (H.length + 4) 0 ∧ ρ 21 = i64 (k : Int) ∧ Sw H n N T.1 T.2 C p1 p2 ∧ (k + 1 < hi → Wl C (min 3 (hi - k)) (ρ 20))) (hi - lo) ?_ ?_
  · refine ⟨lo, H.length + 7, H.length + 8, S, Nat.le_refl _, by omega, by omega, hS, rfl, rfl, rfl, rfl, rfl, rfl, rfl, ?_, ?_⟩
    · exact ⟨(Old.refl H).app _, hget_new', hget_newL rfl, hget_newL rfl, hget_newL rfl, hget_newL rfl, hget_newL rfl, by omega, by omega, by omega⟩
    · intro _
      rw [show min 3 (hi - lo) = 3 by omega]
      exact Wl3 (hget_newL rfl) (by assumption) (by assumption) (by assumption)
  clear hd hd' hcell hb3 e1 e2
  rintro j ρ C ⟨k, p1, p2, T, hk1, hk2, hkj, hT, h2, h3, h5, h6, h10, h11, h21, hC, hW⟩
  have b5 := hC.b5
  have b6 := hC.b6
  have r10 := hC.r10
  have r11 := hC.r11
  have hCl1 := lt_of_hget hC.r11
  have em : IntKind.i64.wrap ((hi : Int) - 1) = (hi : Int) - 1 := wrap_i64 (by omega)
  have emk : IntKind.i64.wrap ((hi : Int) - k) = (hi : Int) - k := wrap_i64 (by omega)
  have ek : IntKind.i64.wrap ((k : Int) + 1) = ((k + 1 : Nat) : Int) := by rw [wrap_i64 (by omega)]; omega
  by_cases hkh : (k : Int) < (hi : Int) - 1
  · obtain ⟨px, c, ws, h20, hmc, hpx, hwl, hwI⟩ := hW (by omega)
    clear hW
    obtain ⟨m, hm⟩ : ∃ m, min 3 (hi - k) = m := ⟨_, rfl⟩
    rw [hm] at h20 hmc hwl
    have hmin : (if (hi : Int) - k < 3 then (hi : Int) - k else 3) = (m : Int) := by split <;> omega
    have om : ∀ f : Operand → MV, Option.map f none = none := fun _ => _root_.id rfl
    have f3 : (0 ≤ (m : Int)) = True := eq_true (by omega)
    have f4 : ((m : Int) ≤ (m : Int)) = True := eq_true (Int.le_refl _)
    have f5 : (m : Int).toNat = m := Int.toNat_natCast m
    have hwc : ∀ i, i < ws.length → (ws.map u64)[0 + i]? = some (u64 (ws.getD i 0)) := fun i hi => by simp [List.getD_eq_getElem?_getD, hi]
    have q0 : H.length < C.length := by omega
    have q1 : H.length + 1 < C.length := by omega
    have q3 : H.length + 3 < C.length := by omega
    have q4 : H.length + 4 < C.length := by omega
    have b5L : ∀ L, hget (C ++ L) H.length = some ⟨[i64 n, i64 n, i64 n, .slice p1 0 N N 1], true⟩ := fun L => hget_appL b5
    have b6L : ∀ L, hget (C ++ L) (H.length + 1) = some ⟨[i64 n, i64 n, i64 n, .slice p2 0 N N 1], true⟩ := fun L => hget_appL b6
    cases hf : finL ws
    · have hgen := hgen_bad (H := C) (v := .slice px 0 m c 1) (xs := ws) (.inr ⟨px, 0, c, _, by rw [hwl], hpx, hwc⟩) (by omega) hf
      have r10L : ∀ L, hget (C ++ L) (H.length + 3) = some ⟨[i64 0, i64 0, i64 0, nils], true⟩ := fun L => hget_appL r10
      have s34 : ∀ x L, hget (C.set (H.length + 3) x ++ L) (H.length + 4) = some ⟨[i64 0, i64 0, i64 0, nils], true⟩ := fun x L => by rw [hget_old (by rw [List.length_set]; omega)]; exact (hget_set_ne (by omega) _).trans r11
      have s3 : ∀ x y L, hget ((C.set (H.length + 3) x).set (H.length + 4) y ++ L) (H.length + 3) = x := fun x y L => by rw [hget_old (by simp only [List.length_set]; omega)]; exact (hget_set_ne (by omega) _).trans (hget_set_same (by omega) _)
      have s4 : ∀ x y L, hget ((C.set (H.length + 3) x).set (H.length + 4) y ++ L) (H.length + 4) = y := fun x y L => by rw [hget_old (by simp only [List.length_set]; omega)]; exact hget_set_same (by rw [List.length_set]; omega) _
      repeat' first | (with_reducible (show W _ _ _ _ _); with_reducible refine go2 ?_) | (with_reducible (show W _ _ _ _ _); with_reducible refine sg2 ?_ ?_ <;> intro _) | (with_reducible (show W _ _ _ _ _); with_reducible refine sc2 ?_ ?_ <;> intro _) | (with_reducible (show W _ _ (.code (.region 5 _ true) :: _) _ _); with_reducible refine W_draw [(0, []), (1, []), (2, []), (4, []), (5, []), (6, []), (7, []), (9, []), (10, []), (11, []), (12, []), (3, [4, 9]), (8, [9]), (13, []), (14, []), (15, []), (16, [])] [4, 9] (by kernel_rfl) ?_) | (with_reducible (show W _ _ (.code (.region 6 _ true) :: _) _ _); with_reducible refine W_draw [(0, []), (1, []), (2, []), (3, []), (6, []), (7, []), (9, []), (10, []), (4, [7]), (5, [7]), (8, []), (11, []), (12, []), (13, [])] [7] (by kernel_rfl) ?_) | (with_reducible (show W _ _ (.code (.region 7 _ true) :: _) _ _); with_reducible refine W_draw [(0, []), (1, []), (2, []), (3, []), (4, []), (5, []), (6, []), (9, []), (10, []), (7, [10]), (8, [10]), (11, []), (12, []), (13, [])] [10] (by kernel_rfl) ?_) | (with_reducible (show W _ _ (.code (.region 9 _ true) :: _) _ _); with_reducible refine W_draw [(0, []), (2, []), (1, [2]), (3, []), (4, []), (5, [])] [2] (by kernel_rfl) ?_) | (with_reducible (show W _ _ (.code (.region 29 _ true) :: _) _ _); with_reducible refine W_draw [(0, []), (1, []), (2, [1]), (3, []), (4, [])] [1] (by kernel_rfl) ?_) | ((with_reducible (show CallK _ _ _ _ _ _ _ _ _ _ _); with_reducible refine cm2 hgen ?_))
      exact .inl ⟨6, by decide, rfl, ((hC.old.setq _ (by omega)).setq _ (by omega)).app _⟩
    have hgen := hgen_spec hpx hwc (c := c) (by omega) (by omega) hf hwI
    rw [hwl] at hgen
    repeat' first | (with_reducible (show W _ _ _ _ _); with_reducible refine go2 ?_) | (with_reducible (show W _ _ _ _ _); with_reducible refine sg2 ?_ ?_ <;> intro _) | (with_reducible (show W _ _ (.code (.region 5 _ true) :: _) _ _); with_reducible refine W_draw [(0, []), (1, []), (2, []), (4, []), (5, []), (6, []), (7, []), (9, []), (10, []), (11, []), (12, []), (3, [4, 9]), (8, [9]), (13, []), (14, []), (15, []), (16, [])] [4, 9] (by kernel_rfl) ?_) | (with_reducible (show W _ _ (.code (.region 6 _ true) :: _) _ _); with_reducible refine W_draw [(0, []), (1, []), (2, []), (3, []), (6, []), (7, []), (9, []), (10, []), (4, [7]), (5, [7]), (8, []), (11, []), (12, []), (13, [])] [7] (by kernel_rfl) ?_) | (with_reducible (show W _ _ (.code (.region 7 _ true) :: _) _ _); with_reducible refine W_draw [(0, []), (1, []), (2, []), (3, []), (4, []), (5, []), (6, []), (9, []), (10, []), (7, [10]), (8, [10]), (11, []), (12, []), (13, [])] [10] (by kernel_rfl) ?_) | (with_reducible (show W _ _ (.code (.region 9 _ true) :: _) _ _); with_reducible refine W_draw [(0, []), (2, []), (1, [2]), (3, []), (4, []), (5, [])] [2] (by kernel_rfl) ?_) | (with_reducible (show W _ _ (.code (.region 29 _ true) :: _) _ _); with_reducible refine W_draw [(0, []), (1, []), (2, [1]), (3, []), (4, [])] [1] (by kernel_rfl) ?_)
    (with_reducible (show CallK _ _ _ _ _ _ _ _ _ _ _)); with_reducible refine cx2 hgen ?_
    rintro u' H' ⟨q, hq, rfl, rfl⟩
    have hVl : (genV ws).length = m := by rw [genV_len (by omega)]; exact hwl
    have hVI := genV_in ws
    have hT2 := both2_ok hT (genV ws) (genT ws) (k : Int)
    have hrows : rowsB (genV ws).length n (k : Int) = true := by
      rw [hVl]
      simp only [rowsB, Bool.and_eq_true, decide_eq_true_eq]
      rw [wrap_i64 (by omega)]
      omega
    have hsl : ∀ L : MH, Sl (C ++ some ⟨(genV ws).map u64, true⟩ :: L) (.slice C.length 0 m q 1) (genV ws) := fun L => .inr ⟨C.length, 0, q, _, by rw [hVl], hget_new', fun i hi => by simp [List.getD_eq_getElem?_getD, hi]⟩
    have hboth := fun L => both_okG hT.a hT.b hT.c hT.d (hT.a.len.trans hN) (hT.c.len.trans hN) (z := N) (z' := N) (hget_appL (L := some ⟨(genV ws).map u64, true⟩ :: L) hC.d) (hget_appL hC.e) (hsl L) hVI (genT ws) _ hrows
    change ∀ L, Spec Try.prog 37 _ _ fun u H' => _ ∧ H' = _ ++ [some ⟨(both2 n (genV ws) (genT ws) (k : Int) T).1.map u64, true⟩, some ⟨(both2 n (genV ws) (genT ws) (k : Int) T).2.map u64, true⟩] at hboth
    have hbI := genK_in hwI
    have h23 : C.length + 2 + 1 = C.length + 3 := rfl
    have s01 : ∀ x L, hget (C.set H.length x ++ L) (H.length + 1) = some ⟨[i64 n, i64 n, i64 n, .slice p2 0 N N 1], true⟩ := fun x L => by rw [hget_old (by rw [List.length_set]; omega)]; exact (hget_set_ne (by omega) _).trans b6
    generalize both2 n (genV ws) (genT ws) (k : Int) T = T' at hT2 hboth
    repeat' first | (with_reducible (show W _ _ _ _ _); with_reducible refine go2 ?_) | (with_reducible (show W _ _ _ _ _); with_reducible refine sg2 ?_ ?_ <;> intro _) | (with_reducible (show W _ _ (.code (.region 5 _ true) :: _) _ _); with_reducible refine W_draw [(0, []), (1, []), (2, []), (4, []), (5, []), (6, []), (7, []), (9, []), (10, []), (11, []), (12, []), (3, [4, 9]), (8, [9]), (13, []), (14, []), (15, []), (16, [])] [4, 9] (by kernel_rfl) ?_) | (with_reducible (show W _ _ (.code (.region 6 _ true) :: _) _ _); with_reducible refine W_draw [(0, []), (1, []), (2, []), (3, []), (6, []), (7, []), (9, []), (10, []), (4, [7]), (5, [7]), (8, []), (11, []), (12, []), (13, [])] [7] (by kernel_rfl) ?_) | (with_reducible (show W _ _ (.code (.region 7 _ true) :: _) _ _); with_reducible refine W_draw [(0, []), (1, []), (2, []), (3, []), (4, []), (5, []), (6, []), (9, []), (10, []), (7, [10]), (8, [10]), (11, []), (12, []), (13, [])] [10] (by kernel_rfl) ?_) | (with_reducible (show W _ _ (.code (.region 9 _ true) :: _) _ _); with_reducible refine W_draw [(0, []), (2, []), (1, [2]), (3, []), (4, []), (5, [])] [2] (by kernel_rfl) ?_) | (with_reducible (show W _ _ (.code (.region 29 _ true) :: _) _ _); with_reducible refine W_draw [(0, []), (1, []), (2, [1]), (3, []), (4, [])] [1] (by kernel_rfl) ?_) | ((with_reducible (show CallK _ _ _ _ _ _ _ _ _ _ _); with_reducible refine cm2 (hboth _) ?_))
    refine W_mem (Sw H n N T'.1 T'.2 · (C.length + 2) (C.length + 3)) ?_ ?_
    · refine ⟨((hC.old.setq _ (by omega)).setq _ (by omega)).app _, ?_, ?_, ?_, ?_, ?_, ?_, by omega, by omega, by omega⟩
      · rw [hget_old (by simp only [List.length_set]; omega), hget_set_ne (by omega)]; exact hget_set_same (by omega) _
      · rw [hget_old (by simp only [List.length_set]; omega)]; exact hget_set_same (by rw [List.length_set]; omega) _
      · rw [hget_old (by simp only [List.length_set]; omega), hget_set_ne (by omega), hget_set_ne (by omega)]; exact r10
      · rw [hget_old (by simp only [List.length_set]; omega), hget_set_ne (by omega), hget_set_ne (by omega)]; exact r11
      · exact hget_newL (by simp only [List.length_set])
      · exact hget_newL (by simp only [List.length_set])
    intro C1 hC1
    clear hC b5 b6 r10 r11 hCl1 q0 q1 q3 q4 b5L b6L hgen hsl hboth h23 s01 hpx h20 hmin f3 f4 f5 om hwc
    generalize C.length + 2 = p1, C.length + 3 = p2 at hC1
    refine W_cut (fun ρ C => ∃ T : List Int × List Int, SqOk n T ∧ ρ 2 = i64 (lo : Int) ∧ ρ 3 = i64 (hi : Int) ∧ ρ 5 = .ptr H.length 0 ∧ ρ 6 = .ptr (H.length + 1) 0 ∧ ρ 10 = .ptr (H.length + 3) 0 ∧ ρ 11 = .ptr (H.length + 4) 0 ∧ ρ 21 = i64 (k : Int) ∧ Sw H n N T.1 T.2 C p1 p2) ?_ ?_
    · refine sc2 ?_ ?_ <;> intro hkl
      · have emk1 : IntKind.i64.wrap ((k : Int) - 1) = (k : Int) - 1 := wrap_i64 (by omega)
        have b5 := hC1.b5
        have hTN := hT2.a.len.trans hN
        repeat' first | (with_reducible (show W _ _ _ _ _); with_reducible refine go2 ?_) | (with_reducible (show W _ _ _ _ _); with_reducible refine sg2 ?_ ?_ <;> intro _) | (with_reducible (show W _ _ _ _ _); with_reducible refine sc2 ?_ ?_ <;> intro _) | (with_reducible (show W _ _ (.code (.region 5 _ true) :: _) _ _); with_reducible refine W_draw [(0, []), (1, []), (2, []), (4, []), (5, []), (6, []), (7, []), (9, []), (10, []), (11, []), (12, []), (3, [4, 9]), (8, [9]), (13, []), (14, []), (15, []), (16, [])] [4, 9] (by kernel_rfl) ?_) | (with_reducible (show W _ _ (.code (.region 6 _ true) :: _) _ _); with_reducible refine W_draw [(0, []), (1, []), (2, []), (3, []), (6, []), (7, []), (9, []), (10, []), (4, [7]), (5, [7]), (8, []), (11, []), (12, []), (13, [])] [7] (by kernel_rfl) ?_) | (with_reducible (show W _ _ (.code (.region 7 _ true) :: _) _ _); with_reducible refine W_draw [(0, []), (1, []), (2, []), (3, []), (4, []), (5, []), (6, []), (9, []), (10, []), (7, [10]), (8, [10]), (11, []), (12, []), (13, [])] [10] (by kernel_rfl) ?_) | (with_reducible (show W _ _ (.code (.region 9 _ true) :: _) _ _); with_reducible refine W_draw [(0, []), (2, []), (1, [2]), (3, []), (4, []), (5, [])] [2] (by kernel_rfl) ?_) | (with_reducible (show W _ _ (.code (.region 29 _ true) :: _) _ _); with_reducible refine W_draw [(0, []), (1, []), (2, [1]), (3, []), (4, [])] [1] (by kernel_rfl) ?_) | ((with_reducible (show CallK _ _ _ _ _ _ _ _ _ _ _); with_reducible refine cm2 (set_ok hT2.a _ _ _ hC1.d hTN) ?_))
        have hS3 := hC1.setD (D' := setM n n n T'.1 k ((k : Int) - 1) (genK ws).1)
        have hS4 : SqOk n (setM n n n T'.1 k ((k : Int) - 1) (genK ws).1, T'.2) := ⟨hT2.a.set _ _ _, hT2.b.setm _ _ _ _ _ hbI, hT2.c, hT2.d⟩
        refine W_for (fun j' ρ C => ∃ (i : Nat) (T : List Int × List Int), k + 1 ≤ i ∧ i + j' = hi + 1 ∧ SqOk n T ∧ ρ 2 = i64 (lo : Int) ∧ ρ 3 = i64 (hi : Int) ∧ ρ 5 = .ptr H.length 0 ∧ ρ 6 = .ptr (H.length + 1) 0 ∧ ρ 10 = .ptr (H.length + 3) 0 ∧ ρ 11 = .ptr (H.length + 4) 0 ∧ ρ 21 = i64 (k : Int) ∧ ρ 26 = i64 (i : Int) ∧ Sw H n N T.1 T.2 C p1 p2) (hi - k) ?_ ?_
        · exact ⟨k + 1, _, Nat.le_refl _, by omega, hS4, h2, h3, h5, h6, h10, h11, h21, rfl, hS3⟩
        clear h2 h3 h5 h6 h10 h11 h21 hC1 hS3 hS4 b5 hTN hT2
        rintro j' ρ C ⟨i, T, hi1, hi2, hT, h2, h3, h5, h6, h10, h11, h21, h26, hC⟩
        have b5 := hC.b5
        have hTN := hT.a.len.trans hN
        have ek3 : IntKind.i64.wrap ((k : Int) + 3) = ((k + 3 : Nat) : Int) := by rw [wrap_i64 (by omega)]; omega
        have ei : IntKind.i64.wrap ((i : Int) + 1) = ((i + 1 : Nat) : Int) := by rw [wrap_i64 (by omega)]; omega
        have emn : (if (hi : Int) < ((k + 3 : Nat) : Int) then (hi : Int) else ((k + 3 : Nat) : Int)) = ((min (k + 3) hi : Nat) : Int) := by split <;> omega
        repeat' first | (with_reducible (show W _ _ _ _ _); with_reducible refine go2 ?_) | (with_reducible (show W _ _ _ _ _); with_reducible refine sg2 ?_ ?_ <;> intro _) | (with_reducible (show W _ _ _ _ _); with_reducible refine sc2 ?_ ?_ <;> intro _) | (with_reducible (show W _ _ (.code (.region 5 _ true) :: _) _ _); with_reducible refine W_draw [(0, []), (1, []), (2, []), (4, []), (5, []), (6, []), (7, []), (9, []), (10, []), (11, []), (12, []), (3, [4, 9]), (8, [9]), (13, []), (14, []), (15, []), (16, [])] [4, 9] (by kernel_rfl) ?_) | (with_reducible (show W _ _ (.code (.region 6 _ true) :: _) _ _); with_reducible refine W_draw [(0, []), (1, []), (2, []), (3, []), (6, []), (7, []), (9, []), (10, []), (4, [7]), (5, [7]), (8, []), (11, []), (12, []), (13, [])] [7] (by kernel_rfl) ?_) | (with_reducible (show W _ _ (.code (.region 7 _ true) :: _) _ _); with_reducible refine W_draw [(0, []), (1, []), (2, []), (3, []), (4, []), (5, []), (6, []), (9, []), (10, []), (7, [10]), (8, [10]), (11, []), (12, []), (13, [])] [10] (by kernel_rfl) ?_) | (with_reducible (show W _ _ (.code (.region 9 _ true) :: _) _ _); with_reducible refine W_draw [(0, []), (2, []), (1, [2]), (3, []), (4, []), (5, [])] [2] (by kernel_rfl) ?_) | (with_reducible (show W _ _ (.code (.region 29 _ true) :: _) _ _); with_reducible refine W_draw [(0, []), (1, []), (2, [1]), (3, []), (4, [])] [1] (by kernel_rfl) ?_) | ((with_reducible (show CallK _ _ _ _ _ _ _ _ _ _ _); with_reducible refine cm2 (set_ok hT.a _ _ _ hC.d hTN) ?_))
        · exact ⟨j' - 1, by omega, i + 1, (_, T.2), by omega, by omega, ⟨hT.a.set _ _ _, hT.b.setm _ _ _ _ _ zero_in, hT.c, hT.d⟩, rfl, hC.setD⟩
        · exact ⟨T, hT, hC⟩
      · repeat' first | (with_reducible (show W _ _ _ _ _); with_reducible refine go2 ?_) | (with_reducible (show W _ _ _ _ _); with_reducible refine sg2 ?_ ?_ <;> intro _) | (with_reducible (show W _ _ _ _ _); with_reducible refine sc2 ?_ ?_ <;> intro _) | (with_reducible (show W _ _ (.code (.region 5 _ true) :: _) _ _); with_reducible refine W_draw [(0, []), (1, []), (2, []), (4, []), (5, []), (6, []), (7, []), (9, []), (10, []), (11, []), (12, []), (3, [4, 9]), (8, [9]), (13, []), (14, []), (15, []), (16, [])] [4, 9] (by kernel_rfl) ?_) | (with_reducible (show W _ _ (.code (.region 6 _ true) :: _) _ _); with_reducible refine W_draw [(0, []), (1, []), (2, []), (3, []), (6, []), (7, []), (9, []), (10, []), (4, [7]), (5, [7]), (8, []), (11, []), (12, []), (13, [])] [7] (by kernel_rfl) ?_) | (with_reducible (show W _ _ (.code (.region 7 _ true) :: _) _ _); with_reducible refine W_draw [(0, []), (1, []), (2, []), (3, []), (4, []), (5, []), (6, []), (9, []), (10, []), (7, [10]), (8, [10]), (11, []), (12, []), (13, [])] [10] (by kernel_rfl) ?_) | (with_reducible (show W _ _ (.code (.region 9 _ true) :: _) _ _); with_reducible refine W_draw [(0, []), (2, []), (1, [2]), (3, []), (4, []), (5, [])] [2] (by kernel_rfl) ?_) | (with_reducible (show W _ _ (.code (.region 29 _ true) :: _) _ _); with_reducible refine W_draw [(0, []), (1, []), (2, [1]), (3, []), (4, [])] [1] (by kernel_rfl) ?_)
        exact ⟨T', hT2, hC1⟩
    clear h2 h3 h5 h6 h10 h11 h21 hC1 hT2 T' hbI
    rintro ρ B ⟨T', hT2, h2, h3, h5, h6, h10, h11, h21, hB⟩
    repeat' first | (with_reducible (show W _ _ _ _ _); with_reducible refine go2 ?_) | (with_reducible (show W _ _ _ _ _); with_reducible refine sg2 ?_ ?_ <;> intro _) | (with_reducible (show W _ _ (.code (.region 5 _ true) :: _) _ _); with_reducible refine W_draw [(0, []), (1, []), (2, []), (4, []), (5, []), (6, []), (7, []), (9, []), (10, []), (11, []), (12, []), (3, [4, 9]), (8, [9]), (13, []), (14, []), (15, []), (16, [])] [4, 9] (by kernel_rfl) ?_) | (with_reducible (show W _ _ (.code (.region 6 _ true) :: _) _ _); with_reducible refine W_draw [(0, []), (1, []), (2, []), (3, []), (6, []), (7, []), (9, []), (10, []), (4, [7]), (5, [7]), (8, []), (11, []), (12, []), (13, [])] [7] (by kernel_rfl) ?_) | (with_reducible (show W _ _ (.code (.region 7 _ true) :: _) _ _); with_reducible refine W_draw [(0, []), (1, []), (2, []), (3, []), (4, []), (5, []), (6, []), (9, []), (10, []), (7, [10]), (8, [10]), (11, []), (12, []), (13, [])] [10] (by kernel_rfl) ?_) | (with_reducible (show W _ _ (.code (.region 9 _ true) :: _) _ _); with_reducible refine W_draw [(0, []), (2, []), (1, [2]), (3, []), (4, []), (5, [])] [2] (by kernel_rfl) ?_) | (with_reducible (show W _ _ (.code (.region 29 _ true) :: _) _ _); with_reducible refine W_draw [(0, []), (1, []), (2, [1]), (3, []), (4, [])] [1] (by kernel_rfl) ?_)
    have hbI := fun i k => atM_in hT2.b n n n i k
    refine W_for (fun j' ρ C => ∃ (i : Nat) (us : List Int), k + 1 ≤ i ∧ i ≤ hi ∧ i ≤ k + 4 ∧ i + j' = hi ∧ us.length = i - (k + 1) ∧ InD us ∧ ρ 2 = i64 (lo : Int) ∧ ρ 3 = i64 (hi : Int) ∧ ρ 5 = .ptr H.length 0 ∧ ρ 6 = .ptr (H.length + 1) 0 ∧ ρ 10 = .ptr (H.length + 3) 0 ∧ ρ 11 = .ptr (H.length + 4) 0 ∧ ρ 21 = i64 (k : Int) ∧ ρ 27 = i64 (i : Int) ∧ Olds B C ∧ Ls B C 1 (us.map u64) us.length (ρ 20)) (hi - (k + 1)) ?_ ?_
    · exact ⟨k + 1, [], Nat.le_refl _, by omega, by omega, by omega, by simp, fun x hx => (by cases hx), h2, h3, h5, h6, h10, h11, h21, rfl, Olds.refl _, Ls.nil _ _ _⟩
    clear h2 h3 h5 h6 h10 h11 h21
    rintro j' ρ C ⟨i, us, hi1, hi2, hi3, hi4, hul, huI, h2, h3, h5, h6, h10, h11, h21, h27, hCo, hx⟩
    have hC := hB.olds hCo
    have b5 := hC.b5
    have hTN := hT2.a.len.trans hN
    have ek3 : IntKind.i64.wrap ((k : Int) + 4) = ((k + 4 : Nat) : Int) := by rw [wrap_i64 (by omega)]; omega
    have ei : IntKind.i64.wrap ((i : Int) + 1) = ((i + 1 : Nat) : Int) := by rw [wrap_i64 (by omega)]; omega
    have emn : (if (hi : Int) < ((k + 4 : Nat) : Int) then (hi : Int) else ((k + 4 : Nat) : Int)) = ((min (k + 4) hi : Nat) : Int) := by split <;> omega
    have hbs : ∀ x : Int, bsV (.slice 1 8 (some [.int .u64 0]) true) 1 [(0, u64 x)] = some ([u64 x], 1) := fun x => _root_.id rfl
    have hty : (ty Try.prog 22).k = .slice 1 8 (some [.int .u64 0]) true := by rw [ty_22]
    repeat' first | (with_reducible (show W _ _ _ _ _); with_reducible refine go2 ?_) | (with_reducible (show W _ _ _ _ _); with_reducible refine sg2 ?_ ?_ <;> intro _) | (with_reducible (show W _ _ _ _ _); with_reducible refine sc2 ?_ ?_ <;> intro _) | (with_reducible (show CallK _ _ _ _ _ _ _ _ _ _ _); with_reducible refine ce2 (at_ok hT2.a _ _ hC.d hTN) ?_) | (with_reducible (show W _ _ (.code (.region 5 _ true) :: _) _ _); with_reducible refine W_draw [(0, []), (1, []), (2, []), (4, []), (5, []), (6, []), (7, []), (9, []), (10, []), (11, []), (12, []), (3, [4, 9]), (8, [9]), (13, []), (14, []), (15, []), (16, [])] [4, 9] (by kernel_rfl) ?_) | (with_reducible (show W _ _ (.code (.region 6 _ true) :: _) _ _); with_reducible refine W_draw [(0, []), (1, []), (2, []), (3, []), (6, []), (7, []), (9, []), (10, []), (4, [7]), (5, [7]), (8, []), (11, []), (12, []), (13, [])] [7] (by kernel_rfl) ?_) | (with_reducible (show W _ _ (.code (.region 7 _ true) :: _) _ _); with_reducible refine W_draw [(0, []), (1, []), (2, []), (3, []), (4, []), (5, []), (6, []), (9, []), (10, []), (7, [10]), (8, [10]), (11, []), (12, []), (13, [])] [10] (by kernel_rfl) ?_) | (with_reducible (show W _ _ (.code (.region 9 _ true) :: _) _ _); with_reducible refine W_draw [(0, []), (2, []), (1, [2]), (3, []), (4, []), (5, [])] [2] (by kernel_rfl) ?_) | (with_reducible (show W _ _ (.code (.region 29 _ true) :: _) _ _); with_reducible refine W_draw [(0, []), (1, []), (2, [1]), (3, []), (4, [])] [1] (by kernel_rfl) ?_) | ((with_reducible (show AppK _ _ _ _ _ _ _ _ _ _); with_reducible refine app_ls hCo hx (by omega) hty ⟨by decide, by decide, rfl, by decide⟩ (k0 := 1) ⟨by decide, by decide⟩ rfl rfl rfl rfl rfl ?_; rintro v' C' hC' hx'; refine ⟨held_none _ _ _, ?_⟩))
    · rename_i hlt
      refine ⟨j' - 1, by omega, i + 1, us ++ [atM n n n T'.1 i k], by omega, by omega, by omega, by omega, by simp; omega, ?_, rfl, by simpa using hx'⟩
      intro x hx
      rcases List.mem_append.1 hx with h | h
      · exact huI x h
      · simp only [List.mem_singleton] at h
        subst h; exact hbI _ _
    · rename_i hge
      refine ⟨j - 1, by omega, k + 1, p1, p2, T', by omega, by omega, by omega, hT2, rfl, hC, fun hlt => ?_⟩
      rcases hx.2 with ⟨h0, _⟩ | ⟨px, c, hv, hc, hg, _⟩
      · omega
      · rw [hv]
        exact ⟨px, c, us, by rw [show min 3 (hi - (k + 1)) = us.length by omega], by omega, hg, by omega, huI⟩
  · clear hW
    have s34 : ∀ x, hget (C.set (H.length + 3) x) (H.length + 4) = some ⟨[i64 0, i64 0, i64 0, nils], true⟩ := fun x => (hget_set_ne (by omega) _).trans r11
    have s31 : ∀ x, hget (C.set (H.length + 3) x) (H.length + 1) = some ⟨[i64 n, i64 n, i64 n, .slice p2 0 N N 1], true⟩ := fun x => (hget_set_ne (by omega) _).trans b6
    have s3 : ∀ x y, hget ((C.set (H.length + 3) x).set (H.length + 4) y) (H.length + 3) = x := fun x y => (hget_set_ne (by omega) _).trans (hget_set_same (by omega) _)
    have s4 : ∀ x y, hget ((C.set (H.length + 3) x).set (H.length + 4) y) (H.length + 4) = y := fun x y => hget_set_same (by rw [List.length_set]; omega) _
    repeat' first | (with_reducible (show W _ _ _ _ _); with_reducible refine go2 ?_) | (with_reducible (show W _ _ _ _ _); with_reducible refine sg2 ?_ ?_ <;> intro _) | (with_reducible (show W _ _ _ _ _); with_reducible refine sc2 ?_ ?_ <;> intro _) | (with_reducible (show W _ _ (.code (.region 5 _ true) :: _) _ _); with_reducible refine W_draw [(0, []), (1, []), (2, []), (4, []), (5, []), (6, []), (7, []), (9, []), (10, []), (11, []), (12, []), (3, [4, 9]), (8, [9]), (13, []), (14, []), (15, []), (16, [])] [4, 9] (by kernel_rfl) ?_) | (with_reducible (show W _ _ (.code (.region 6 _ true) :: _) _ _); with_reducible refine W_draw [(0, []), (1, []), (2, []), (3, []), (6, []), (7, []), (9, []), (10, []), (4, [7]), (5, [7]), (8, []), (11, []), (12, []), (13, [])] [7] (by kernel_rfl) ?_) | (with_reducible (show W _ _ (.code (.region 7 _ true) :: _) _ _); with_reducible refine W_draw [(0, []), (1, []), (2, []), (3, []), (4, []), (5, []), (6, []), (9, []), (10, []), (7, [10]), (8, [10]), (11, []), (12, []), (13, [])] [10] (by kernel_rfl) ?_) | (with_reducible (show W _ _ (.code (.region 9 _ true) :: _) _ _); with_reducible refine W_draw [(0, []), (2, []), (1, [2]), (3, []), (4, []), (5, [])] [2] (by kernel_rfl) ?_) | (with_reducible (show W _ _ (.code (.region 29 _ true) :: _) _ _); with_reducible refine W_draw [(0, []), (1, []), (2, [1]), (3, []), (4, [])] [1] (by kernel_rfl) ?_)
    have l1 := hC.l1
    have l2 := hC.l2
    refine .inr ⟨T, p1, p2, hT, rfl, hC.ne, by omega, by omega, ?_, ?_, (hC.old.setq _ (by omega)).setq _ (by omega)⟩
    · rw [hget_set_ne (by omega), hget_set_ne (by omega)]; exact hC.d
    · rw [hget_set_ne (by omega), hget_set_ne (by omega)]; exact hC.e
end Go.Proofs.Ytamoljalficfgaa.M

/- schur.Of: it ends. -/
set_option linter.unusedSimpArgs false
set_option linter.unusedVariables false
set_option pp.deepTerms false
set_option pp.maxSteps 1500
set_option maxRecDepth 10000
set_option maxHeartbeats 16000000
namespace Go.Proofs.Ytamoljalficfgaa.M
open Go Go.Proofs

abbrev zeroF : MV := .agg [i64 0, i64 0, i64 0, nils, i64 0, i64 0, i64 0, nils, i64 0, i64 0, i64 0]
/-- Where hess.Reduce can't, schur.Of can't. -/
theorem of_er {r c s : Int} {p n z : Nat} {e : Int} (he : ¬ e = 0) {H : MH} (hr : ∀ L : MH, Spec Try.prog 18 [mx r c s p n z] (H ++ L) fun u H' => u = .tup [mx0, mx0, i64 0, i64 e] ∧ H' = H ++ L) :
    Spec Try.prog 20 [mx r c s p n z] H fun u H' => u = .tup [zeroF, i64 e] ∧ H' = H := by
  refine Spec.scalar (enterS Try.func20 [.cell 2 55, .tmp 3] ?_)
  repeat' first | (with_reducible (show W _ _ _ _ _); with_reducible refine go2 ?_) | (with_reducible (show W _ _ _ _ _); with_reducible refine sg2 ?_ ?_ <;> intro _) | (with_reducible (show W _ _ _ _ _); with_reducible refine sc2 ?_ ?_ <;> intro _) | (with_reducible (show W _ _ (.code (.region 18 _ true) :: _) _ _); with_reducible refine W_draw [(0, []), (1, []), (2, []), (3, []), (4, [1]), (5, [])] [1] (by kernel_rfl) ?_) | (with_reducible (show W _ _ (.code (.region 27 _ true) :: _) _ _); with_reducible refine W_draw [(0, []), (1, []), (2, []), (3, [1]), (4, []), (5, [])] [1] (by kernel_rfl) ?_) | ((with_reducible (show CallK _ _ _ _ _ _ _ _ _ _ _); with_reducible refine cm2 (hr _) ?_))
  all_goals trivial
theorem budget_spec (n : Int) (H : MH) : Spec Try.prog 21 [i64 n] H fun v H' => v = i64 (IntKind.i64.wrap (IntKind.i64.wrap (30 * (if 0 < (if 4096 < n then 4096 else n) then (if 4096 < n then 4096 else n) else 0)) + 300)) ∧ H' = H := by
  refine Spec.scalar (enterS Try.func21 [.tmp 2] ?_)
  repeat' first | (with_reducible (show W _ _ _ _ _); with_reducible refine go2 ?_) | (with_reducible (show W _ _ _ _ _); with_reducible refine sg2 ?_ ?_ <;> intro _) | (with_reducible (show W _ _ _ _ _); with_reducible refine sc2 ?_ ?_ <;> intro _)
  all_goals trivial
theorem usualM_in {n : Int} {D : List Int} (h : InD D) (k : Int) : InU (usualM n D k).1 ∧ InU (usualM n D k).2 := ⟨addM_in (atM_in h _ _ _ _ _) (atM_in h _ _ _ _ _), addM_in (mulM_in _ _) (flip_in _)⟩
theorem otherM_in {n : Int} {D : List Int} (h : InD D) (k : Int) : InU (otherM n D k).1 ∧ InU (otherM n D k).2 := by
  have hx : InU (addM (mulM 4604930618986332160 (addM (absM (atM n n n D (IntKind.i64.wrap (k - 1)) (IntKind.i64.wrap (k - 2)))) (absM (atM n n n D (IntKind.i64.wrap (k - 2)) (IntKind.i64.wrap (k - 3))))).1).1 (atM n n n D (IntKind.i64.wrap (k - 1)) (IntKind.i64.wrap (k - 1)))).1 := addM_in (mulM_in _ _) (atM_in h _ _ _ _ _)
  exact ⟨addM_in hx hx, addM_in (mulM_in _ _) (flip_in _)⟩

/-- The memory of schur.Of. -/
structure Om (H : MH) (n : Int) (N : Nat) (pw : Int) (sw : Nat) (S : List Int × List Int) (C : MH) (p p' : Nat) : Prop where
  old : Old H C
  r2 : hget C (H.length + 1) = some ⟨[i64 0, i64 0, i64 0, nils, i64 0, i64 0, i64 0, nils, i64 0, i64 0, i64 0], true⟩
  b4 : ∃ v, hget C (H.length + 4) = some ⟨[i64 n, i64 n, i64 n, v], true⟩
  fm : Fm n N pw (sw : Int) 0 S.1 S.2 (H.length + 6) p p' C
  l1 : H.length + 1 < p ∧ p ≠ H.length + 4
  l2 : H.length + 1 < p' ∧ p' ≠ H.length + 4
theorem Om.app {H : MH} {n : Int} {N : Nat} {pw : Int} {sw : Nat} {S : List Int × List Int} {C : MH} {p p' : Nat} (h : Om H n N pw sw S C p p') (L : MH) : Om H n N pw sw S (C ++ L) p p' := by
  obtain ⟨v, hv⟩ := h.b4
  exact ⟨h.old.app _, hget_appL h.r2, ⟨v, hget_appL hv⟩, h.fm.app _, h.l1, h.l2⟩
theorem Om.but {H : MH} {n : Int} {N : Nat} {pw : Int} {sw : Nat} {S S' : List Int × List Int} {C C' : MH} {p p' : Nat} (h : Om H n N pw sw S C p p') (hb : But p p' C C') (hf : Fm n N pw (sw : Int) 0 S'.1 S'.2 (H.length + 6) p p' C') : Om H n N pw sw S' C' p p' := by
  obtain ⟨v, hv⟩ := h.b4
  have l1 := h.l1
  have l2 := h.l2
  exact ⟨⟨Nat.le_trans h.old.1 hb.1, fun q hq => (hb.2 q (Nat.lt_of_lt_of_le hq h.old.1) (by omega) (by omega)).trans (h.old.2 q hq)⟩, hb.get h.r2 (by omega) (by omega), ⟨v, hb.get hv (by omega) (by omega)⟩, hf, h.l1, h.l2⟩

theorem of_core {n : Int} {p0 z : Nat} {D : List Int} (h : MatOk n n D) (hI : InD D) (hn8 : n ≤ 90) {N : Nat} (hN : D.length = N) {H : MH} {rw : Bool} (hp : hget H p0 = some ⟨D.map u64, rw⟩) (hfin : finD D = true) (hR : (redM n D).1 = 0) :
    Spec Try.prog 20 [mx n n n p0 N z] H fun u H' => ∃ (cs : List MV) (e : Int), cs.length = 11 ∧ cs.all one = true ∧ u = .tup [.agg cs, i64 e] ∧ Old H H' := by
  have hpl := lt_of_hget hp
  have hn0 := h.r0
  have hNN : (n * n).toNat = N := h.len.symm.trans hN
  have hS0 := redM_ok h hI
  have hred := fun L => reduce_ok h hI hn8 hN (z := z) (hget_appL (L := L) hp) hfin hR
  generalize (redM n D).2 = S0 at hS0 hred
  generalize unitE n n D = pw at hred
  refine enterS Try.func20 [.cell 2 55, .tmp 3] ?_
  repeat' first | (with_reducible (show W _ _ _ _ _); with_reducible refine go2 ?_) | (with_reducible (show W _ _ _ _ _); with_reducible refine sg2 ?_ ?_ <;> intro _) | (with_reducible (show W _ _ _ _ _); with_reducible refine sc2 ?_ ?_ <;> intro _) | (with_reducible (show W _ _ (.code (.region 18 _ true) :: _) _ _); with_reducible refine W_draw [(0, []), (1, []), (2, []), (3, []), (4, [1]), (5, [])] [1] (by kernel_rfl) ?_) | (with_reducible (show W _ _ (.code (.region 27 _ true) :: _) _ _); with_reducible refine W_draw [(0, []), (1, []), (2, []), (3, [1]), (4, []), (5, [])] [1] (by kernel_rfl) ?_) | ((with_reducible (show CallK _ _ _ _ _ _ _ _ _ _ _); with_reducible refine cm2 (hred _) ?_))
  have hbud : 0 ≤ 30 * n + 300 := by omega
  refine W_for (fun j ρ C => ∃ (hi sw p p' : Nat) (st : Int) (S : List Int × List Int), (hi : Int) ≤ n ∧ (sw : Int) ≤ 30 * n + 300 ∧ (hi : Int) + (30 * n + 300 - sw) = j ∧ SqOk n S ∧ ρ 2 = .ptr (H.length + 1) 0 ∧ ρ 4 = .ptr (H.length + 4) 0 ∧ ρ 8 = .ptr (H.length + 6) 0 ∧ ρ 9 = i64 (hi : Int) ∧ ρ 10 = i64 st ∧ Om H n N pw sw S C p p') (n + (30 * n + 300)).toNat ?_ ?_
  · refine ⟨n.toNat, 0, H.length + 2, H.length + 3, 0, S0, by omega, by omega, by omega, hS0, rfl, rfl, rfl, ?_, rfl, ?_⟩
    · have : ((n.toNat : Nat) : Int) = n := Int.toNat_of_nonneg hn0
      rw [this]; rfl
    · exact ⟨(Old.refl H).app _, hget_newL rfl, ⟨_, hget_newL rfl⟩, ⟨hget_newL rfl, hget_newL rfl, hget_newL rfl, by omega, by omega, by omega⟩, by omega, by omega⟩
  clear hred hS0
  rintro j ρ C ⟨hi, sw, p, p', st, S, hhi, hsw, hj, hS, h2, h4, h8, h9, h10, hC⟩
  by_cases hpos : 0 < (hi : Int)
  · have ehi : IntKind.i64.wrap ((hi : Int) - 1) = ((hi - 1 : Nat) : Int) := by rw [wrap_i64 (by omega)]; omega
    have hf := hC.fm.f
    repeat' first | (with_reducible (show W _ _ _ _ _); with_reducible refine go2 ?_) | (with_reducible (show W _ _ _ _ _); with_reducible refine sg2 ?_ ?_ <;> intro _) | (with_reducible (show W _ _ (.code (.region 18 _ true) :: _) _ _); with_reducible refine W_draw [(0, []), (1, []), (2, []), (3, []), (4, [1]), (5, [])] [1] (by kernel_rfl) ?_) | (with_reducible (show W _ _ (.code (.region 27 _ true) :: _) _ _); with_reducible refine W_draw [(0, []), (1, []), (2, []), (3, [1]), (4, []), (5, [])] [1] (by kernel_rfl) ?_)
    refine W_for (fun j' ρ' C' => ∃ lo : Nat, lo + 1 ≤ hi ∧ lo ≤ j' ∧ ρ' 2 = .ptr (H.length + 1) 0 ∧ ρ' 4 = .ptr (H.length + 4) 0 ∧ ρ' 8 = .ptr (H.length + 6) 0 ∧ ρ' 9 = i64 (hi : Int) ∧ ρ' 10 = i64 st ∧ ρ' 11 = i64 (lo : Int) ∧ C' = C) hi ?_ ?_
    · exact ⟨hi - 1, by omega, by omega, h2, h4, h8, h9, h10, rfl, rfl⟩
    clear h2 h4 h8 h9 h10
    rintro j' ρ' C' ⟨lo, hlo1, hlo2, h2, h4, h8, h9, h10, h11, rfl⟩
    have hSN := hS.a.len.trans hNN
    by_cases hlo : 0 < (lo : Int)
    · have elo : IntKind.i64.wrap ((lo : Int) - 1) = ((lo - 1 : Nat) : Int) := by rw [wrap_i64 (by omega)]; omega
      repeat' first | (with_reducible (show W _ _ _ _ _); with_reducible refine go2 ?_) | (with_reducible (show W _ _ _ _ _); with_reducible refine sg2 ?_ ?_ <;> intro _) | (with_reducible (show CallK _ _ _ _ _ _ _ _ _ _ _); with_reducible refine ce2 (apart_spec hS.a _ hSN hC.fm.d) ?_) | (with_reducible (show W _ _ (.code (.region 18 _ true) :: _) _ _); with_reducible refine W_draw [(0, []), (1, []), (2, []), (3, []), (4, [1]), (5, [])] [1] (by kernel_rfl) ?_) | (with_reducible (show W _ _ (.code (.region 27 _ true) :: _) _ _); with_reducible refine W_draw [(0, []), (1, []), (2, []), (3, [1]), (4, []), (5, [])] [1] (by kernel_rfl) ?_)
      refine sc2 ?_ ?_ <;> intro hap
      · repeat' first | (with_reducible (show W _ _ _ _ _); with_reducible refine go2 ?_) | (with_reducible (show W _ _ _ _ _); with_reducible refine sg2 ?_ ?_ <;> intro _) | (with_reducible (show W _ _ (.code (.region 18 _ true) :: _) _ _); with_reducible refine W_draw [(0, []), (1, []), (2, []), (3, []), (4, [1]), (5, [])] [1] (by kernel_rfl) ?_) | (with_reducible (show W _ _ (.code (.region 27 _ true) :: _) _ _); with_reducible refine W_draw [(0, []), (1, []), (2, []), (3, [1]), (4, []), (5, [])] [1] (by kernel_rfl) ?_)
        (with_reducible (show CallK _ _ _ _ _ _ _ _ _ _ _)); with_reducible refine cm2 (set_ok hS.a _ _ _ hC.fm.d hSN) ?_
        have hC1 : Om H n N pw sw (setM n n n S.1 (lo : Int) ((lo - 1 : Nat) : Int) 0, S.2) _ p p' := hC.but (S' := (setM n n n S.1 (lo : Int) ((lo - 1 : Nat) : Int) 0, S.2)) ((But.refl p p' C').setD _) (hC.fm.setD (setM n n n S.1 (lo : Int) ((lo - 1 : Nat) : Int) 0))
        have hS1 : SqOk n (setM n n n S.1 (lo : Int) ((lo - 1 : Nat) : Int) 0, S.2) := ⟨hS.a.set _ _ _, hS.b.setm _ _ _ _ _ zero_in, hS.c, hS.d⟩
        refine W_mem (fun C => ∃ S1, SqOk n S1 ∧ Om H n N pw sw S1 C p p') ⟨_, hS1, hC1⟩ ?_
        clear hC1 hS1 hC hS hf hap hSN S
        rintro C1 ⟨S1, hS1, hC1⟩
        have r2 := hC1.r2
        have hf := hC1.fm.f
        have hSN := hS1.a.len.trans hNN
        obtain ⟨vb, b4⟩ := hC1.b4
        have hCl := lt_of_hget hC1.fm.f
        have q1 : H.length + 1 < C1.length := by omega
        have q6 : H.length + 6 < C1.length := by omega
        have edif : IntKind.i64.wrap ((hi : Int) - lo) = ((hi - lo : Nat) : Int) := by rw [wrap_i64 (by omega)]; omega
        repeat' first | (with_reducible (show W _ _ _ _ _); with_reducible refine go2 ?_) | (with_reducible (show W _ _ _ _ _); with_reducible refine sg2 ?_ ?_ <;> intro _) | (with_reducible (show W _ _ (.code (.region 18 _ true) :: _) _ _); with_reducible refine W_draw [(0, []), (1, []), (2, []), (3, []), (4, [1]), (5, [])] [1] (by kernel_rfl) ?_) | (with_reducible (show W _ _ (.code (.region 27 _ true) :: _) _ _); with_reducible refine W_draw [(0, []), (1, []), (2, []), (3, [1]), (4, []), (5, [])] [1] (by kernel_rfl) ?_)
        refine sc2 ?_ ?_ <;> intro c1
        · repeat' first | (with_reducible (show W _ _ _ _ _); with_reducible refine go2 ?_) | (with_reducible (show W _ _ _ _ _); with_reducible refine sg2 ?_ ?_ <;> intro _) | (with_reducible (show W _ _ (.code (.region 18 _ true) :: _) _ _); with_reducible refine W_draw [(0, []), (1, []), (2, []), (3, []), (4, [1]), (5, [])] [1] (by kernel_rfl) ?_) | (with_reducible (show W _ _ (.code (.region 27 _ true) :: _) _ _); with_reducible refine W_draw [(0, []), (1, []), (2, []), (3, [1]), (4, []), (5, [])] [1] (by kernel_rfl) ?_)
          exact ⟨((lo : Int) + (30 * n + 300 - sw)).toNat, by omega, lo, sw, p, p', 0, S1, by omega, hsw, by omega, hS1, rfl, rfl, hC1⟩
        repeat' first | (with_reducible (show W _ _ _ _ _); with_reducible refine go2 ?_) | (with_reducible (show W _ _ _ _ _); with_reducible refine sg2 ?_ ?_ <;> intro _) | (with_reducible (show W _ _ (.code (.region 18 _ true) :: _) _ _); with_reducible refine W_draw [(0, []), (1, []), (2, []), (3, []), (4, [1]), (5, [])] [1] (by kernel_rfl) ?_) | (with_reducible (show W _ _ (.code (.region 27 _ true) :: _) _ _); with_reducible refine W_draw [(0, []), (1, []), (2, []), (3, [1]), (4, []), (5, [])] [1] (by kernel_rfl) ?_)
        refine sc2 ?_ ?_ <;> intro c2
        · repeat' first | (with_reducible (show W _ _ _ _ _); with_reducible refine go2 ?_) | (with_reducible (show W _ _ _ _ _); with_reducible refine sg2 ?_ ?_ <;> intro _) | (with_reducible (show W _ _ (.code (.region 18 _ true) :: _) _ _); with_reducible refine W_draw [(0, []), (1, []), (2, []), (3, []), (4, [1]), (5, [])] [1] (by kernel_rfl) ?_) | (with_reducible (show W _ _ (.code (.region 27 _ true) :: _) _ _); with_reducible refine W_draw [(0, []), (1, []), (2, []), (3, [1]), (4, []), (5, [])] [1] (by kernel_rfl) ?_)
          (with_reducible (show CallK _ _ _ _ _ _ _ _ _ _ _)); with_reducible refine cx2 (two_spec hS1 hn8 hNN hC1.fm (by omega)) ?_
          rintro u' C2 ⟨rfl, hb2, S2, hS2, _, hF2⟩
          have hC2 := hC1.but hb2 hF2
          repeat' first | (with_reducible (show W _ _ _ _ _); with_reducible refine go2 ?_) | (with_reducible (show W _ _ _ _ _); with_reducible refine sg2 ?_ ?_ <;> intro _) | (with_reducible (show W _ _ (.code (.region 18 _ true) :: _) _ _); with_reducible refine W_draw [(0, []), (1, []), (2, []), (3, []), (4, [1]), (5, [])] [1] (by kernel_rfl) ?_) | (with_reducible (show W _ _ (.code (.region 27 _ true) :: _) _ _); with_reducible refine W_draw [(0, []), (1, []), (2, []), (3, [1]), (4, []), (5, [])] [1] (by kernel_rfl) ?_)
          exact ⟨((lo : Int) + (30 * n + 300 - sw)).toNat, by omega, lo, sw, p, p', 0, S2, by omega, hsw, by omega, hS2, rfl, rfl, hC2⟩
        have ebud : IntKind.i64.wrap (IntKind.i64.wrap (30 * (if 0 < (if 4096 < n then 4096 else n) then (if 4096 < n then 4096 else n) else 0)) + 300) = 30 * n + 300 := by
          have : (if 0 < (if 4096 < n then 4096 else n) then (if 4096 < n then 4096 else n) else 0) = n := by
            rw [if_neg (show ¬ 4096 < n by omega), if_pos (by omega)]
          rw [this, wrap_i64 (n := 30 * n) (by omega), wrap_i64 (by omega)]
        have q2 : ∀ x y, hget ((C1.set (H.length + 6) x).set (H.length + 1) y) (H.length + 1) = y := fun x y => hget_set_same (by rw [List.length_set]; omega) _
        have q3 : ∀ x, hget (C1.set (H.length + 6) x) (H.length + 1) = some ⟨[i64 0, i64 0, i64 0, nils, i64 0, i64 0, i64 0, nils, i64 0, i64 0, i64 0], true⟩ := fun x => (hget_set_ne (by omega) _).trans r2
        repeat' first | (with_reducible (show W _ _ _ _ _); with_reducible refine go2 ?_) | (with_reducible (show W _ _ _ _ _); with_reducible refine sg2 ?_ ?_ <;> intro _) | (with_reducible (show CallK _ _ _ _ _ _ _ _ _ _ _); with_reducible refine ce2 (budget_spec _ _) ?_) | (with_reducible (show W _ _ (.code (.region 18 _ true) :: _) _ _); with_reducible refine W_draw [(0, []), (1, []), (2, []), (3, []), (4, [1]), (5, [])] [1] (by kernel_rfl) ?_) | (with_reducible (show W _ _ (.code (.region 27 _ true) :: _) _ _); with_reducible refine W_draw [(0, []), (1, []), (2, []), (3, [1]), (4, []), (5, [])] [1] (by kernel_rfl) ?_)
        refine sc2 ?_ ?_ <;> intro c3
        · repeat' first | (with_reducible (show W _ _ _ _ _); with_reducible refine go2 ?_) | (with_reducible (show W _ _ _ _ _); with_reducible refine sg2 ?_ ?_ <;> intro _) | (with_reducible (show W _ _ (.code (.region 18 _ true) :: _) _ _); with_reducible refine W_draw [(0, []), (1, []), (2, []), (3, []), (4, [1]), (5, [])] [1] (by kernel_rfl) ?_) | (with_reducible (show W _ _ (.code (.region 27 _ true) :: _) _ _); with_reducible refine W_draw [(0, []), (1, []), (2, []), (3, [1]), (4, []), (5, [])] [1] (by kernel_rfl) ?_)
          exact ⟨_, 8, rfl, rfl, rfl, (hC1.old.setq _ (by omega)).setq _ (by omega)⟩
        clear q2 q3 ebud
        have hsw2 : (sw : Int) < 30 * n + 300 := by omega
        have esw : IntKind.i64.wrap ((sw : Int) + 1) = ((sw + 1 : Nat) : Int) := by rw [wrap_i64 (by omega)]; omega
        repeat' first | (with_reducible (show W _ _ _ _ _); with_reducible refine go2 ?_) | (with_reducible (show W _ _ _ _ _); with_reducible refine sg2 ?_ ?_ <;> intro _) | (with_reducible (show CallK _ _ _ _ _ _ _ _ _ _ _); with_reducible refine ce2 (usual_spec hS1.a hS1.b _ hC1.fm.d hSN) ?_) | (with_reducible (show W _ _ (.code (.region 18 _ true) :: _) _ _); with_reducible refine W_draw [(0, []), (1, []), (2, []), (3, []), (4, [1]), (5, [])] [1] (by kernel_rfl) ?_) | (with_reducible (show W _ _ (.code (.region 27 _ true) :: _) _ _); with_reducible refine W_draw [(0, []), (1, []), (2, []), (3, [1]), (4, []), (5, [])] [1] (by kernel_rfl) ?_)
        refine W_cut (fun ρ C => ∃ s1 s2 : Int, InU s1 ∧ InU s2 ∧ ρ 2 = .ptr (H.length + 1) 0 ∧ ρ 4 = .ptr (H.length + 4) 0 ∧ ρ 8 = .ptr (H.length + 6) 0 ∧ ρ 9 = i64 (hi : Int) ∧ ρ 10 = i64 st ∧ ρ 11 = i64 (lo : Int) ∧ ρ 12 = .ptr C1.length 0 ∧ C = C1 ++ [some ⟨[u64 s1, u64 s2], true⟩]) ?_ ?_
        · have hfL : ∀ L, hget (C1 ++ L) (H.length + 6) = _ := fun L => hget_appL hf
          repeat' first | (with_reducible (show W _ _ _ _ _); with_reducible refine go2 ?_) | (with_reducible (show W _ _ _ _ _); with_reducible refine sg2 ?_ ?_ <;> intro _) | (with_reducible (show W _ _ _ _ _); with_reducible refine sc2 ?_ ?_ <;> intro _) | (with_reducible (show CallK _ _ _ _ _ _ _ _ _ _ _); with_reducible refine ce2 (other_spec hS1.a hS1.b _ (hget_appL hC1.fm.d) hSN) ?_) | (with_reducible (show W _ _ (.code (.region 18 _ true) :: _) _ _); with_reducible refine W_draw [(0, []), (1, []), (2, []), (3, []), (4, [1]), (5, [])] [1] (by kernel_rfl) ?_) | (with_reducible (show W _ _ (.code (.region 27 _ true) :: _) _ _); with_reducible refine W_draw [(0, []), (1, []), (2, []), (3, [1]), (4, []), (5, [])] [1] (by kernel_rfl) ?_)
          · exact ⟨_, _, (otherM_in hS1.b _).1, (otherM_in hS1.b _).2, rfl⟩
          · exact ⟨_, _, (usualM_in hS1.b _).1, (usualM_in hS1.b _).2, rfl⟩
        clear h2 h4 h8 h9 h10 h11
        rintro ρ C ⟨s1, s2, hs1, hs2, h2, h4, h8, h9, h10, h11, h12, rfl⟩
        have hfL : ∀ L, hget (C1 ++ L) (H.length + 6) = _ := fun L => hget_appL hf
        have r2L : ∀ L, hget (C1 ++ L) (H.length + 1) = _ := fun L => hget_appL r2
        have q4 : ∀ x L, hget (C1.set (H.length + 1) x ++ L) (H.length + 1) = x := fun x L => hget_sa q1
        have q5 : ∀ x L, hget (C1.set (H.length + 6) x ++ L) (H.length + 6) = x := fun x L => hget_sa q6
        repeat' first | (with_reducible (show W _ _ _ _ _); with_reducible refine go2 ?_) | (with_reducible (show W _ _ _ _ _); with_reducible refine sg2 ?_ ?_ <;> intro _) | (with_reducible (show W _ _ (.code (.region 18 _ true) :: _) _ _); with_reducible refine W_draw [(0, []), (1, []), (2, []), (3, []), (4, [1]), (5, [])] [1] (by kernel_rfl) ?_) | (with_reducible (show W _ _ (.code (.region 27 _ true) :: _) _ _); with_reducible refine W_draw [(0, []), (1, []), (2, []), (3, [1]), (4, []), (5, [])] [1] (by kernel_rfl) ?_)
        (with_reducible (show CallK _ _ _ _ _ _ _ _ _ _ _)); with_reducible refine cx2 (sweep_spec hS1 hn8 hNN (by omega) (by omega) hs1 hs2 (hget_appL hC1.fm.d) (hget_appL hC1.fm.e)) ?_
        rintro u' C2 (⟨e, he, rfl, rfl⟩ | ⟨T, hT, rfl, rfl⟩)
        · repeat' first | (with_reducible (show W _ _ _ _ _); with_reducible refine go2 ?_) | (with_reducible (show W _ _ _ _ _); with_reducible refine sg2 ?_ ?_ <;> intro _) | (with_reducible (show W _ _ _ _ _); with_reducible refine sc2 ?_ ?_ <;> intro _) | (with_reducible (show W _ _ (.code (.region 18 _ true) :: _) _ _); with_reducible refine W_draw [(0, []), (1, []), (2, []), (3, []), (4, [1]), (5, [])] [1] (by kernel_rfl) ?_) | (with_reducible (show W _ _ (.code (.region 27 _ true) :: _) _ _); with_reducible refine W_draw [(0, []), (1, []), (2, []), (3, [1]), (4, []), (5, [])] [1] (by kernel_rfl) ?_)
          exact ⟨_, e, rfl, rfl, rfl, (hC1.old.setq _ (by omega)).app _⟩
        · have h23 : C1.length + 1 + 1 = C1.length + 2 := rfl
          repeat' first | (with_reducible (show W _ _ _ _ _); with_reducible refine go2 ?_) | (with_reducible (show W _ _ _ _ _); with_reducible refine sg2 ?_ ?_ <;> intro _) | (with_reducible (show W _ _ _ _ _); with_reducible refine sc2 ?_ ?_ <;> intro _) | (with_reducible (show W _ _ (.code (.region 18 _ true) :: _) _ _); with_reducible refine W_draw [(0, []), (1, []), (2, []), (3, []), (4, [1]), (5, [])] [1] (by kernel_rfl) ?_) | (with_reducible (show W _ _ (.code (.region 27 _ true) :: _) _ _); with_reducible refine W_draw [(0, []), (1, []), (2, []), (3, [1]), (4, []), (5, [])] [1] (by kernel_rfl) ?_)
          refine ⟨((hi : Int) + (30 * n + 300 - ((sw + 1 : Nat) : Int))).toNat, by omega, hi, sw + 1, C1.length + 1, C1.length + 2, _, T, hhi, by omega, by omega, hT, rfl, rfl, ?_⟩
          refine ⟨(hC1.old.setq _ (by omega)).app _, ?_, ⟨vb, ?_⟩, ⟨q5 _ _, hget_newL len_set, hget_newL len_set, by omega, by omega, by omega⟩, by omega, by omega⟩
          · rw [hget_old (by rw [len_set]; exact q1), hget_set_ne (by omega)]; exact r2
          · rw [hget_old (by rw [len_set]; omega), hget_set_ne (by omega)]; exact b4
      · repeat' first | (with_reducible (show W _ _ _ _ _); with_reducible refine go2 ?_) | (with_reducible (show W _ _ _ _ _); with_reducible refine sg2 ?_ ?_ <;> intro _) | (with_reducible (show W _ _ (.code (.region 18 _ true) :: _) _ _); with_reducible refine W_draw [(0, []), (1, []), (2, []), (3, []), (4, [1]), (5, [])] [1] (by kernel_rfl) ?_) | (with_reducible (show W _ _ (.code (.region 27 _ true) :: _) _ _); with_reducible refine W_draw [(0, []), (1, []), (2, []), (3, [1]), (4, []), (5, [])] [1] (by kernel_rfl) ?_)
        exact ⟨j' - 1, by omega, lo - 1, by omega, by omega, rfl⟩
    · refine W_mem (fun C => ∃ S1, SqOk n S1 ∧ Om H n N pw sw S1 C p p') ⟨_, hS, hC⟩ ?_
      clear hC hS hf hSN S
      rintro C1 ⟨S1, hS1, hC1⟩
      have r2 := hC1.r2
      have hf := hC1.fm.f
      have hSN := hS1.a.len.trans hNN
      obtain ⟨vb, b4⟩ := hC1.b4
      have hCl := lt_of_hget hC1.fm.f
      have q1 : H.length + 1 < C1.length := by omega
      have q6 : H.length + 6 < C1.length := by omega
      have edif : IntKind.i64.wrap ((hi : Int) - lo) = ((hi - lo : Nat) : Int) := by rw [wrap_i64 (by omega)]; omega
      repeat' first | (with_reducible (show W _ _ _ _ _); with_reducible refine go2 ?_) | (with_reducible (show W _ _ _ _ _); with_reducible refine sg2 ?_ ?_ <;> intro _) | (with_reducible (show W _ _ (.code (.region 18 _ true) :: _) _ _); with_reducible refine W_draw [(0, []), (1, []), (2, []), (3, []), (4, [1]), (5, [])] [1] (by kernel_rfl) ?_) | (with_reducible (show W _ _ (.code (.region 27 _ true) :: _) _ _); with_reducible refine W_draw [(0, []), (1, []), (2, []), (3, [1]), (4, []), (5, [])] [1] (by kernel_rfl) ?_)
      refine sc2 ?_ ?_ <;> intro c1
      · repeat' first | (with_reducible (show W _ _ _ _ _); with_reducible refine go2 ?_) | (with_reducible (show W _ _ _ _ _); with_reducible refine sg2 ?_ ?_ <;> intro _) | (with_reducible (show W _ _ (.code (.region 18 _ true) :: _) _ _); with_reducible refine W_draw [(0, []), (1, []), (2, []), (3, []), (4, [1]), (5, [])] [1] (by kernel_rfl) ?_) | (with_reducible (show W _ _ (.code (.region 27 _ true) :: _) _ _); with_reducible refine W_draw [(0, []), (1, []), (2, []), (3, [1]), (4, []), (5, [])] [1] (by kernel_rfl) ?_)
        exact ⟨((lo : Int) + (30 * n + 300 - sw)).toNat, by omega, lo, sw, p, p', 0, S1, by omega, hsw, by omega, hS1, rfl, rfl, hC1⟩
      repeat' first | (with_reducible (show W _ _ _ _ _); with_reducible refine go2 ?_) | (with_reducible (show W _ _ _ _ _); with_reducible refine sg2 ?_ ?_ <;> intro _) | (with_reducible (show W _ _ (.code (.region 18 _ true) :: _) _ _); with_reducible refine W_draw [(0, []), (1, []), (2, []), (3, []), (4, [1]), (5, [])] [1] (by kernel_rfl) ?_) | (with_reducible (show W _ _ (.code (.region 27 _ true) :: _) _ _); with_reducible refine W_draw [(0, []), (1, []), (2, []), (3, [1]), (4, []), (5, [])] [1] (by kernel_rfl) ?_)
      refine sc2 ?_ ?_ <;> intro c2
      · repeat' first | (with_reducible (show W _ _ _ _ _); with_reducible refine go2 ?_) | (with_reducible (show W _ _ _ _ _); with_reducible refine sg2 ?_ ?_ <;> intro _) | (with_reducible (show W _ _ (.code (.region 18 _ true) :: _) _ _); with_reducible refine W_draw [(0, []), (1, []), (2, []), (3, []), (4, [1]), (5, [])] [1] (by kernel_rfl) ?_) | (with_reducible (show W _ _ (.code (.region 27 _ true) :: _) _ _); with_reducible refine W_draw [(0, []), (1, []), (2, []), (3, [1]), (4, []), (5, [])] [1] (by kernel_rfl) ?_)
        (with_reducible (show CallK _ _ _ _ _ _ _ _ _ _ _)); with_reducible refine cx2 (two_spec hS1 hn8 hNN hC1.fm (by omega)) ?_
        rintro u' C2 ⟨rfl, hb2, S2, hS2, _, hF2⟩
        have hC2 := hC1.but hb2 hF2
        repeat' first | (with_reducible (show W _ _ _ _ _); with_reducible refine go2 ?_) | (with_reducible (show W _ _ _ _ _); with_reducible refine sg2 ?_ ?_ <;> intro _) | (with_reducible (show W _ _ (.code (.region 18 _ true) :: _) _ _); with_reducible refine W_draw [(0, []), (1, []), (2, []), (3, []), (4, [1]), (5, [])] [1] (by kernel_rfl) ?_) | (with_reducible (show W _ _ (.code (.region 27 _ true) :: _) _ _); with_reducible refine W_draw [(0, []), (1, []), (2, []), (3, [1]), (4, []), (5, [])] [1] (by kernel_rfl) ?_)
        exact ⟨((lo : Int) + (30 * n + 300 - sw)).toNat, by omega, lo, sw, p, p', 0, S2, by omega, hsw, by omega, hS2, rfl, rfl, hC2⟩
      have ebud : IntKind.i64.wrap (IntKind.i64.wrap (30 * (if 0 < (if 4096 < n then 4096 else n) then (if 4096 < n then 4096 else n) else 0)) + 300) = 30 * n + 300 := by
        have : (if 0 < (if 4096 < n then 4096 else n) then (if 4096 < n then 4096 else n) else 0) = n := by
          rw [if_neg (show ¬ 4096 < n by omega), if_pos (by omega)]
        rw [this, wrap_i64 (n := 30 * n) (by omega), wrap_i64 (by omega)]
      have q2 : ∀ x y, hget ((C1.set (H.length + 6) x).set (H.length + 1) y) (H.length + 1) = y := fun x y => hget_set_same (by rw [List.length_set]; omega) _
      have q3 : ∀ x, hget (C1.set (H.length + 6) x) (H.length + 1) = some ⟨[i64 0, i64 0, i64 0, nils, i64 0, i64 0, i64 0, nils, i64 0, i64 0, i64 0], true⟩ := fun x => (hget_set_ne (by omega) _).trans r2
      repeat' first | (with_reducible (show W _ _ _ _ _); with_reducible refine go2 ?_) | (with_reducible (show W _ _ _ _ _); with_reducible refine sg2 ?_ ?_ <;> intro _) | (with_reducible (show CallK _ _ _ _ _ _ _ _ _ _ _); with_reducible refine ce2 (budget_spec _ _) ?_) | (with_reducible (show W _ _ (.code (.region 18 _ true) :: _) _ _); with_reducible refine W_draw [(0, []), (1, []), (2, []), (3, []), (4, [1]), (5, [])] [1] (by kernel_rfl) ?_) | (with_reducible (show W _ _ (.code (.region 27 _ true) :: _) _ _); with_reducible refine W_draw [(0, []), (1, []), (2, []), (3, [1]), (4, []), (5, [])] [1] (by kernel_rfl) ?_)
      refine sc2 ?_ ?_ <;> intro c3
      · repeat' first | (with_reducible (show W _ _ _ _ _); with_reducible refine go2 ?_) | (with_reducible (show W _ _ _ _ _); with_reducible refine sg2 ?_ ?_ <;> intro _) | (with_reducible (show W _ _ (.code (.region 18 _ true) :: _) _ _); with_reducible refine W_draw [(0, []), (1, []), (2, []), (3, []), (4, [1]), (5, [])] [1] (by kernel_rfl) ?_) | (with_reducible (show W _ _ (.code (.region 27 _ true) :: _) _ _); with_reducible refine W_draw [(0, []), (1, []), (2, []), (3, [1]), (4, []), (5, [])] [1] (by kernel_rfl) ?_)
        exact ⟨_, 8, rfl, rfl, rfl, (hC1.old.setq _ (by omega)).setq _ (by omega)⟩
      clear q2 q3 ebud
      have hsw2 : (sw : Int) < 30 * n + 300 := by omega
      have esw : IntKind.i64.wrap ((sw : Int) + 1) = ((sw + 1 : Nat) : Int) := by rw [wrap_i64 (by omega)]; omega
      repeat' first | (with_reducible (show W _ _ _ _ _); with_reducible refine go2 ?_) | (with_reducible (show W _ _ _ _ _); with_reducible refine sg2 ?_ ?_ <;> intro _) | (with_reducible (show CallK _ _ _ _ _ _ _ _ _ _ _); with_reducible refine ce2 (usual_spec hS1.a hS1.b _ hC1.fm.d hSN) ?_) | (with_reducible (show W _ _ (.code (.region 18 _ true) :: _) _ _); with_reducible refine W_draw [(0, []), (1, []), (2, []), (3, []), (4, [1]), (5, [])] [1] (by kernel_rfl) ?_) | (with_reducible (show W _ _ (.code (.region 27 _ true) :: _) _ _); with_reducible refine W_draw [(0, []), (1, []), (2, []), (3, [1]), (4, []), (5, [])] [1] (by kernel_rfl) ?_)
      refine W_cut (fun ρ C => ∃ s1 s2 : Int, InU s1 ∧ InU s2 ∧ ρ 2 = .ptr (H.length + 1) 0 ∧ ρ 4 = .ptr (H.length + 4) 0 ∧ ρ 8 = .ptr (H.length + 6) 0 ∧ ρ 9 = i64 (hi : Int) ∧ ρ 10 = i64 st ∧ ρ 11 = i64 (lo : Int) ∧ ρ 12 = .ptr C1.length 0 ∧ C = C1 ++ [some ⟨[u64 s1, u64 s2], true⟩]) ?_ ?_
      · have hfL : ∀ L, hget (C1 ++ L) (H.length + 6) = _ := fun L => hget_appL hf
        repeat' first | (with_reducible (show W _ _ _ _ _); with_reducible refine go2 ?_) | (with_reducible (show W _ _ _ _ _); with_reducible refine sg2 ?_ ?_ <;> intro _) | (with_reducible (show W _ _ _ _ _); with_reducible refine sc2 ?_ ?_ <;> intro _) | (with_reducible (show CallK _ _ _ _ _ _ _ _ _ _ _); with_reducible refine ce2 (other_spec hS1.a hS1.b _ (hget_appL hC1.fm.d) hSN) ?_) | (with_reducible (show W _ _ (.code (.region 18 _ true) :: _) _ _); with_reducible refine W_draw [(0, []), (1, []), (2, []), (3, []), (4, [1]), (5, [])] [1] (by kernel_rfl) ?_) | (with_reducible (show W _ _ (.code (.region 27 _ true) :: _) _ _); with_reducible refine W_draw [(0, []), (1, []), (2, []), (3, [1]), (4, []), (5, [])] [1] (by kernel_rfl) ?_)
        · exact ⟨_, _, (otherM_in hS1.b _).1, (otherM_in hS1.b _).2, rfl⟩
        · exact ⟨_, _, (usualM_in hS1.b _).1, (usualM_in hS1.b _).2, rfl⟩
      clear h2 h4 h8 h9 h10 h11
      rintro ρ C ⟨s1, s2, hs1, hs2, h2, h4, h8, h9, h10, h11, h12, rfl⟩
      have hfL : ∀ L, hget (C1 ++ L) (H.length + 6) = _ := fun L => hget_appL hf
      have r2L : ∀ L, hget (C1 ++ L) (H.length + 1) = _ := fun L => hget_appL r2
      have q4 : ∀ x L, hget (C1.set (H.length + 1) x ++ L) (H.length + 1) = x := fun x L => hget_sa q1
      have q5 : ∀ x L, hget (C1.set (H.length + 6) x ++ L) (H.length + 6) = x := fun x L => hget_sa q6
      repeat' first | (with_reducible (show W _ _ _ _ _); with_reducible refine go2 ?_) | (with_reducible (show W _ _ _ _ _); with_reducible refine sg2 ?_ ?_ <;> intro _) | (with_reducible (show W _ _ (.code (.region 18 _ true) :: _) _ _); with_reducible refine W_draw [(0, []), (1, []), (2, []), (3, []), (4, [1]), (5, [])] [1] (by kernel_rfl) ?_) | (with_reducible (show W _ _ (.code (.region 27 _ true) :: _) _ _); with_reducible refine W_draw [(0, []), (1, []), (2, []), (3, [1]), (4, []), (5, [])] [1] (by kernel_rfl) ?_)
      (with_reducible (show CallK _ _ _ _ _ _ _ _ _ _ _)); with_reducible refine cx2 (sweep_spec hS1 hn8 hNN (by omega) (by omega) hs1 hs2 (hget_appL hC1.fm.d) (hget_appL hC1.fm.e)) ?_
      rintro u' C2 (⟨e, he, rfl, rfl⟩ | ⟨T, hT, rfl, rfl⟩)
      · repeat' first | (with_reducible (show W _ _ _ _ _); with_reducible refine go2 ?_) | (with_reducible (show W _ _ _ _ _); with_reducible refine sg2 ?_ ?_ <;> intro _) | (with_reducible (show W _ _ _ _ _); with_reducible refine sc2 ?_ ?_ <;> intro _) | (with_reducible (show W _ _ (.code (.region 18 _ true) :: _) _ _); with_reducible refine W_draw [(0, []), (1, []), (2, []), (3, []), (4, [1]), (5, [])] [1] (by kernel_rfl) ?_) | (with_reducible (show W _ _ (.code (.region 27 _ true) :: _) _ _); with_reducible refine W_draw [(0, []), (1, []), (2, []), (3, [1]), (4, []), (5, [])] [1] (by kernel_rfl) ?_)
        exact ⟨_, e, rfl, rfl, rfl, (hC1.old.setq _ (by omega)).app _⟩
      · have h23 : C1.length + 1 + 1 = C1.length + 2 := rfl
        repeat' first | (with_reducible (show W _ _ _ _ _); with_reducible refine go2 ?_) | (with_reducible (show W _ _ _ _ _); with_reducible refine sg2 ?_ ?_ <;> intro _) | (with_reducible (show W _ _ _ _ _); with_reducible refine sc2 ?_ ?_ <;> intro _) | (with_reducible (show W _ _ (.code (.region 18 _ true) :: _) _ _); with_reducible refine W_draw [(0, []), (1, []), (2, []), (3, []), (4, [1]), (5, [])] [1] (by kernel_rfl) ?_) | (with_reducible (show W _ _ (.code (.region 27 _ true) :: _) _ _); with_reducible refine W_draw [(0, []), (1, []), (2, []), (3, [1]), (4, []), (5, [])] [1] (by kernel_rfl) ?_)
        refine ⟨((hi : Int) + (30 * n + 300 - ((sw + 1 : Nat) : Int))).toNat, by omega, hi, sw + 1, C1.length + 1, C1.length + 2, _, T, hhi, by omega, by omega, hT, rfl, rfl, ?_⟩
        refine ⟨(hC1.old.setq _ (by omega)).app _, ?_, ⟨vb, ?_⟩, ⟨q5 _ _, hget_newL len_set, hget_newL len_set, by omega, by omega, by omega⟩, by omega, by omega⟩
        · rw [hget_old (by rw [len_set]; exact q1), hget_set_ne (by omega)]; exact r2
        · rw [hget_old (by rw [len_set]; omega), hget_set_ne (by omega)]; exact b4
  · have r2 := hC.r2
    have hf := hC.fm.f
    have hCl := lt_of_hget hC.fm.f
    have q1 : H.length + 1 < C.length := by omega
    repeat' first | (with_reducible (show W _ _ _ _ _); with_reducible refine go2 ?_) | (with_reducible (show W _ _ _ _ _); with_reducible refine sg2 ?_ ?_ <;> intro _) | (with_reducible (show W _ _ _ _ _); with_reducible refine sc2 ?_ ?_ <;> intro _) | (with_reducible (show W _ _ (.code (.region 18 _ true) :: _) _ _); with_reducible refine W_draw [(0, []), (1, []), (2, []), (3, []), (4, [1]), (5, [])] [1] (by kernel_rfl) ?_) | (with_reducible (show W _ _ (.code (.region 27 _ true) :: _) _ _); with_reducible refine W_draw [(0, []), (1, []), (2, []), (3, [1]), (4, []), (5, [])] [1] (by kernel_rfl) ?_)
    exact ⟨_, 0, rfl, rfl, rfl, hC.old.setq _ (by omega)⟩
end Go.Proofs.Ytamoljalficfgaa.M
