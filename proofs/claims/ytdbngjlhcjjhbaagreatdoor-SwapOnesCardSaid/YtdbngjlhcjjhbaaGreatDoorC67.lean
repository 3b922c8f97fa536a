/- swap.size, ones: two numbers of the diagonal change places. -/
import Derived.Test.YtdbngjlhcjjhbaaGreatDoorC66
import Derived.Test.YtdbngjlhcjjhbaaGreatDoorMT3
set_option linter.unusedSimpArgs false
set_option linter.unusedVariables false
set_option pp.deepTerms false
set_option pp.maxSteps 1500
set_option maxRecDepth 10000
set_option maxHeartbeats 4000000
namespace Go.Proofs.YtdbngjlhcjjhbaaGreatDoor.M
open Go Go.Proofs

theorem Spec.junkP {P : Program} {f : FuncId} {args : List MV} {H Hm : MH} {r : MV} (hl : Hm.length = H.length) (ho : ∀ p o, hget Hm p = some o → hget H p = some o ∨ ∀ c ∈ o.cells, Cl 0 [] c) (hr : Cl H.length [] r) (hrr : ren (keep H.length []) r = r) (h : Spec P f args H fun v H' => v = r ∧ ∃ J, H' = Hm ++ J) : Spec P f args H fun v H' => v = r ∧ H' = Hm := by
  refine Spec.gc h ?_
  rintro v H1 ⟨rfl, J, rfl⟩
  exact ⟨Hm, J, [], rfl, hl, List.nodup_nil, by simp, ho, by simp, hr, hrr, by simp⟩
theorem ex_is {T : Type} (y : T) : ∃ X, Is X y := ⟨y, rfl⟩
theorem size_one {n : Int} {p z : Nat} {D : List Int} (h : MatOk n n D) {N : Nat} (hN : D.length = N) {H : MH} {rw : Bool} (hp : hget H p = some ⟨D.map u64, rw⟩) {i : Int} (hz : IntKind.i64.wrap (i + 1) < n → kindM (atM n n n D (IntKind.i64.wrap (i + 1)) i) = 1) :
    Spec Tryz.prog 24 [mx n n n p N z, i64 i] H fun v H' => v = i64 1 ∧ H' = H := by
  refine Spec.scalar (enterS Tryz.func24 [.tmp 4] ?_)
  repeat' first | (with_reducible (show W _ _ _ _ _); with_reducible refine go2 ?_) | (with_reducible (show W _ _ _ _ _); with_reducible refine sg2 ?_ ?_ <;> intro _) | (with_reducible (show W _ _ _ _ _); with_reducible refine sc2 ?_ ?_ <;> intro _) | (with_reducible (show CallK _ _ _ _ _ _ _ _ _ _ _); with_reducible refine ce2 (at_ok h _ _ (hget_appL hp) hN) ?_) | (with_reducible (show CallK _ _ _ _ _ _ _ _ _ _ _); with_reducible refine ce2 (kind_spec _ _) ?_)
  all_goals first
    | trivial
    | (exfalso; simp_all)

/-- The turn of two numbers of the diagonal. -/
def oneG (n : Int) (D : List Int) (a : Nat) : Int × Int := givM (atM n n n D a ((a + 1 : Nat) : Int)) (addM (atM n n n D ((a + 1 : Nat) : Int) ((a + 1 : Nat) : Int)) (flipM (atM n n n D a a))).1
def oneT (n : Int) (D : List Int) (a : Nat) : List Int := colsM n (oneG n D a).1 (oneG n D a).2 a n.toNat (rowsM n (oneG n D a).1 (oneG n D a).2 a n.toNat D)
def onesD (n : Int) (D : List Int) (a : Nat) : List Int :=
  setM n n n (setM n n n (setM n n n (setM n n n (oneT n D a) a a (atM n n n D ((a + 1 : Nat) : Int) ((a + 1 : Nat) : Int))) ((a + 1 : Nat) : Int) ((a + 1 : Nat) : Int) (atM n n n D a a)) a ((a + 1 : Nat) : Int) (atM n n n D a ((a + 1 : Nat) : Int))) ((a + 1 : Nat) : Int) a 0
def onesE (n : Int) (D E : List Int) (a : Nat) : List Int := colsM n (oneG n D a).1 (oneG n D a).2 a n.toNat E
theorem oneT_ok {n : Int} {D : List Int} (h : MatOk n n D) (a : Nat) : MatOk n n (oneT n D a) := cols_ok (rows_ok h _ _ _ _) _ _ _ _
theorem ones_spec {n : Int} {p q : Nat} {D E : List Int} (hD : MatOk n n D) (hE : MatOk n n E) (hDI : InD D) {a : Nat} (ha : ((a + 1 : Nat) : Int) < n) (fb : finiteM (atM n n n D a ((a + 1 : Nat) : Int)) = true) (fd : finiteM (addM (atM n n n D ((a + 1 : Nat) : Int) ((a + 1 : Nat) : Int)) (flipM (atM n n n D a a))).1 = true)
    {H : MH} (hp : hget H p = some ⟨D.map u64, true⟩) (hq : hget H q = some ⟨E.map u64, true⟩) (hpq : p ≠ q) {N : Nat} (hN : (n * n).toNat = N) :
    Spec Tryz.prog 36 [mx n n n p N N, mx n n n q N N, i64 (a : Int)] H fun v H' => v = .tup [mx n n n p N N, mx n n n q N N, i64 0] ∧ H' = (H.set p (some ⟨(onesD n D a).map u64, true⟩)).set q (some ⟨(onesE n D E a).map u64, true⟩) := by
  have hpl := lt_of_hget hp
  have hql := lt_of_hget hq
  have hr1 := hD.r1
  have hDl : D.length = N := hD.len.trans hN
  have hb := atM_in hDI n n n a ((a + 1 : Nat) : Int)
  have hx := atM_in hDI n n n a a
  have hd := atM_in hDI n n n ((a + 1 : Nat) : Int) ((a + 1 : Nat) : Int)
  have e1 : IntKind.i64.wrap ((a : Int) + 1) = ((a + 1 : Nat) : Int) := by rw [wrap_i64 (by omega)]; omega
  refine Spec.junkP (by rw [len_set, len_set]) (set_or (set_or (fun q o h => .inl h) (closed_u64 _)) (closed_u64 _)) (by simp [Cl, Cls', hpl, hql]) (by simp [ren, rens, keep, hpl, hql]) (enterS Tryz.func36 [.cell 6 25, .cell 7 25, .tmp 8] ?_)
  have hA : ∀ (L : MH) (i k : Int), Spec Tryz.prog 11 [mx n n n p N N, i64 i, i64 k] (H ++ L) fun v H' => v = u64 (atM n n n D i k) ∧ H' = H ++ L := fun L i k => at_ok hD i k (hget_appL hp) hDl
  repeat' first | (with_reducible (show W _ _ _ _ _); with_reducible refine go2 ?_) | (with_reducible (show W _ _ _ _ _); with_reducible refine sg2 ?_ ?_ <;> intro _) | (with_reducible (show W _ _ _ _ _); with_reducible refine sc2 ?_ ?_ <;> intro _) | (with_reducible (show CallK _ _ _ _ _ _ _ _ _ _ _); with_reducible refine ce2 (hA _ _ _) ?_) | (with_reducible (show W _ _ (.code (.region 2 _ true) :: _) _ _); with_reducible refine W_draw [(0, []), (1, []), (2, []), (4, []), (5, []), (6, []), (7, []), (9, []), (10, []), (11, []), (12, []), (13, []), (3, [4, 9]), (8, [9]), (14, []), (15, []), (16, []), (17, [])] [4, 9] (by kernel_rfl) ?_) | (with_reducible (show W _ _ (.code (.region 11 _ true) :: _) _ _); with_reducible refine W_draw [(0, []), (1, []), (2, [1]), (3, []), (4, [])] [1] (by kernel_rfl) ?_)
  (with_reducible (show CallK _ _ _ _ _ _ _ _ _ _ _)); with_reducible refine cm2 (csub_spec hd _ 0 (hget_newL rfl)) ?_
  repeat' first | (with_reducible (show W _ _ _ _ _); with_reducible refine go2 ?_) | (with_reducible (show W _ _ _ _ _); with_reducible refine sg2 ?_ ?_ <;> intro _) | (with_reducible (show W _ _ _ _ _); with_reducible refine sc2 ?_ ?_ <;> intro _) | (with_reducible (show W _ _ (.code (.region 2 _ true) :: _) _ _); with_reducible refine W_draw [(0, []), (1, []), (2, []), (4, []), (5, []), (6, []), (7, []), (9, []), (10, []), (11, []), (12, []), (13, []), (3, [4, 9]), (8, [9]), (14, []), (15, []), (16, []), (17, [])] [4, 9] (by kernel_rfl) ?_) | (with_reducible (show W _ _ (.code (.region 11 _ true) :: _) _ _); with_reducible refine W_draw [(0, []), (1, []), (2, [1]), (3, []), (4, [])] [1] (by kernel_rfl) ?_)
  (with_reducible (show CallK _ _ _ _ _ _ _ _ _ _ _)); with_reducible refine ck2 (givens_spec hb (addM_in hd (flip_in _)) fb fd _) ?_
  rintro ⟨bk, fl⟩ -
  repeat' first | (with_reducible (show W _ _ _ _ _); with_reducible refine go2 ?_) | (with_reducible (show W _ _ _ _ _); with_reducible refine sg2 ?_ ?_ <;> intro _) | (with_reducible (show W _ _ _ _ _); with_reducible refine sc2 ?_ ?_ <;> intro _) | (with_reducible (show W _ _ (.code (.region 2 _ true) :: _) _ _); with_reducible refine W_draw [(0, []), (1, []), (2, []), (4, []), (5, []), (6, []), (7, []), (9, []), (10, []), (11, []), (12, []), (13, []), (3, [4, 9]), (8, [9]), (14, []), (15, []), (16, []), (17, [])] [4, 9] (by kernel_rfl) ?_) | (with_reducible (show W _ _ (.code (.region 11 _ true) :: _) _ _); with_reducible refine W_draw [(0, []), (1, []), (2, [1]), (3, []), (4, [])] [1] (by kernel_rfl) ?_)
  have hT := oneT_ok hD a
  have hTl : (oneT n D a).length = N := hT.len.trans hN
  (with_reducible (show CallK _ _ _ _ _ _ _ _ _ _ _)); with_reducible refine cm2 (turn_spec hD hE _ _ (a : Int) ⟨by omega, by omega⟩ (hget_appL hp) (hget_appL hq) hpq hN) ?_
  rw [if_pos ⟨by omega, by omega⟩, hset_old hpl, hset_old (by rw [len_set]; exact hql)]
  obtain ⟨B, hB⟩ : ∃ B, (H.set p (some ⟨(oneT n D a).map u64, true⟩)).set q (some ⟨(onesE n D E a).map u64, true⟩) = B := ⟨_, rfl⟩
  have hBl : B.length = H.length := by rw [← hB, len_set, len_set]
  have hBp : hget B p = some ⟨(oneT n D a).map u64, true⟩ := by rw [← hB, hget_set_ne (Ne.symm hpq), hget_set_same hpl]
  have hpB : p < B.length := by omega
  show W _ _ _ _ ((H.set p (some ⟨(oneT n D a).map u64, true⟩)).set q (some ⟨(onesE n D E a).map u64, true⟩) ++ _)
  rw [hB]
  have hBf : Hid2 (∀ z, B.set p z = (H.set p z).set q (some ⟨(onesE n D E a).map u64, true⟩)) := fun z => by
    rw [← hB, List.set_comm _ _ (Ne.symm hpq), List.set_set]
  have hS : ∀ (X : List Int) (hX : MatOk n n X) (L : MH) (i k b : Int), Spec Tryz.prog 14 [mx n n n p N N, i64 i, i64 k, u64 b] (B.set p (some ⟨X.map u64, true⟩) ++ L) fun v H' => v = .tup [] ∧ H' = B.set p (some ⟨(setM n n n X i k b).map u64, true⟩) ++ L := fun X hX L i k b => by
    have := set_ok hX i k b (p := p) (z := N) (H := B.set p (some ⟨X.map u64, true⟩) ++ L) (hget_appL (hget_set_same hpB _)) (hX.len.trans hN)
    rw [hset_old (by rw [len_set]; exact hpB), List.set_set] at this
    exact this
  have hB0 : B = B.set p (some ⟨(oneT n D a).map u64, true⟩) := (hset_id hBp).symm
  rw [hB0]
  clear hB0 hB hBp
  have hBl2 : ∀ x, (B.set p x).length = H.length := fun x => by rw [len_set]; exact hBl
  repeat' first | (with_reducible (show W _ _ _ _ _); with_reducible refine go2 ?_) | (with_reducible (show W _ _ _ _ _); with_reducible refine sg2 ?_ ?_ <;> intro _) | (with_reducible (show W _ _ _ _ _); with_reducible refine sc2 ?_ ?_ <;> intro _) | (with_reducible (show W _ _ (.code (.region 2 _ true) :: _) _ _); with_reducible refine W_draw [(0, []), (1, []), (2, []), (4, []), (5, []), (6, []), (7, []), (9, []), (10, []), (11, []), (12, []), (13, []), (3, [4, 9]), (8, [9]), (14, []), (15, []), (16, []), (17, [])] [4, 9] (by kernel_rfl) ?_) | (with_reducible (show W _ _ (.code (.region 11 _ true) :: _) _ _); with_reducible refine W_draw [(0, []), (1, []), (2, [1]), (3, []), (4, [])] [1] (by kernel_rfl) ?_)
  (with_reducible (show CallK _ _ _ _ _ _ _ _ _ _ _)); with_reducible refine cm2 (hS _ hT _ _ _ _) ?_
  have hT1 := hT.set a a (atM n n n D ((a + 1 : Nat) : Int) ((a + 1 : Nat) : Int))
  obtain ⟨X1, hX1⟩ : ∃ X, Is X (setM n n n (oneT n D a) a a (atM n n n D ((a + 1 : Nat) : Int) ((a + 1 : Nat) : Int))) := ex_is _
  have hx1 : X1 = setM n n n (oneT n D a) a a (atM n n n D ((a + 1 : Nat) : Int) ((a + 1 : Nat) : Int)) := hX1
  rw [← hx1] at hT1 ⊢
  clear hx1
  repeat' first | (with_reducible (show W _ _ _ _ _); with_reducible refine go2 ?_) | (with_reducible (show W _ _ _ _ _); with_reducible refine sg2 ?_ ?_ <;> intro _) | (with_reducible (show W _ _ _ _ _); with_reducible refine sc2 ?_ ?_ <;> intro _) | (with_reducible (show W _ _ (.code (.region 2 _ true) :: _) _ _); with_reducible refine W_draw [(0, []), (1, []), (2, []), (4, []), (5, []), (6, []), (7, []), (9, []), (10, []), (11, []), (12, []), (13, []), (3, [4, 9]), (8, [9]), (14, []), (15, []), (16, []), (17, [])] [4, 9] (by kernel_rfl) ?_) | (with_reducible (show W _ _ (.code (.region 11 _ true) :: _) _ _); with_reducible refine W_draw [(0, []), (1, []), (2, [1]), (3, []), (4, [])] [1] (by kernel_rfl) ?_)
  (with_reducible (show CallK _ _ _ _ _ _ _ _ _ _ _)); with_reducible refine cm2 (hS _ hT1 _ _ _ _) ?_
  have hT2 := hT1.set ((a + 1 : Nat) : Int) ((a + 1 : Nat) : Int) (atM n n n D a a)
  obtain ⟨X2, hX2⟩ : ∃ X, Is X (setM n n n X1 ((a + 1 : Nat) : Int) ((a + 1 : Nat) : Int) (atM n n n D a a)) := ex_is _
  have hx2 : X2 = setM n n n X1 ((a + 1 : Nat) : Int) ((a + 1 : Nat) : Int) (atM n n n D a a) := hX2
  rw [← hx2] at hT2 ⊢
  clear hx2
  repeat' first | (with_reducible (show W _ _ _ _ _); with_reducible refine go2 ?_) | (with_reducible (show W _ _ _ _ _); with_reducible refine sg2 ?_ ?_ <;> intro _) | (with_reducible (show W _ _ _ _ _); with_reducible refine sc2 ?_ ?_ <;> intro _) | (with_reducible (show W _ _ (.code (.region 2 _ true) :: _) _ _); with_reducible refine W_draw [(0, []), (1, []), (2, []), (4, []), (5, []), (6, []), (7, []), (9, []), (10, []), (11, []), (12, []), (13, []), (3, [4, 9]), (8, [9]), (14, []), (15, []), (16, []), (17, [])] [4, 9] (by kernel_rfl) ?_) | (with_reducible (show W _ _ (.code (.region 11 _ true) :: _) _ _); with_reducible refine W_draw [(0, []), (1, []), (2, [1]), (3, []), (4, [])] [1] (by kernel_rfl) ?_)
  (with_reducible (show CallK _ _ _ _ _ _ _ _ _ _ _)); with_reducible refine cm2 (hS _ hT2 _ _ _ _) ?_
  have hT3 := hT2.set a ((a + 1 : Nat) : Int) (atM n n n D a ((a + 1 : Nat) : Int))
  obtain ⟨X3, hX3⟩ : ∃ X, Is X (setM n n n X2 a ((a + 1 : Nat) : Int) (atM n n n D a ((a + 1 : Nat) : Int))) := ex_is _
  have hx3 : X3 = setM n n n X2 a ((a + 1 : Nat) : Int) (atM n n n D a ((a + 1 : Nat) : Int)) := hX3
  rw [← hx3] at hT3 ⊢
  clear hx3
  repeat' first | (with_reducible (show W _ _ _ _ _); with_reducible refine go2 ?_) | (with_reducible (show W _ _ _ _ _); with_reducible refine sg2 ?_ ?_ <;> intro _) | (with_reducible (show W _ _ _ _ _); with_reducible refine sc2 ?_ ?_ <;> intro _) | (with_reducible (show W _ _ (.code (.region 2 _ true) :: _) _ _); with_reducible refine W_draw [(0, []), (1, []), (2, []), (4, []), (5, []), (6, []), (7, []), (9, []), (10, []), (11, []), (12, []), (13, []), (3, [4, 9]), (8, [9]), (14, []), (15, []), (16, []), (17, [])] [4, 9] (by kernel_rfl) ?_) | (with_reducible (show W _ _ (.code (.region 11 _ true) :: _) _ _); with_reducible refine W_draw [(0, []), (1, []), (2, [1]), (3, []), (4, [])] [1] (by kernel_rfl) ?_)
  (with_reducible (show CallK _ _ _ _ _ _ _ _ _ _ _)); with_reducible refine cm2 (hS _ hT3 _ _ _ _) ?_
  have hX4 : setM n n n X3 ((a + 1 : Nat) : Int) a 0 = onesD n D a := by
    simp only [Is] at hX1 hX2 hX3
    rw [hX3, hX2, hX1]
    first | done | rfl
  rw [hX4]
  clear hX1 hX2 hX3 hX4
  repeat' first | (with_reducible (show W _ _ _ _ _); with_reducible refine go2 ?_) | (with_reducible (show W _ _ _ _ _); with_reducible refine sg2 ?_ ?_ <;> intro _) | (with_reducible (show W _ _ _ _ _); with_reducible refine sc2 ?_ ?_ <;> intro _) | (with_reducible (show W _ _ (.code (.region 2 _ true) :: _) _ _); with_reducible refine W_draw [(0, []), (1, []), (2, []), (4, []), (5, []), (6, []), (7, []), (9, []), (10, []), (11, []), (12, []), (13, []), (3, [4, 9]), (8, [9]), (14, []), (15, []), (16, []), (17, [])] [4, 9] (by kernel_rfl) ?_) | (with_reducible (show W _ _ (.code (.region 11 _ true) :: _) _ _); with_reducible refine W_draw [(0, []), (1, []), (2, [1]), (3, []), (4, [])] [1] (by kernel_rfl) ?_)
  first | exact ⟨_, by rw [hBf]; rfl⟩ | exact ⟨_, by rw [hBf]⟩
end Go.Proofs.YtdbngjlhcjjhbaaGreatDoor.M
