/- hess.Reduce of any square, as a function of its numbers. -/
import Derived.Test.YtcikcinkjbbnhaaDoorC48
set_option linter.unusedSimpArgs false
set_option linter.unusedVariables false
set_option pp.deepTerms false
set_option pp.maxSteps 1500
set_option maxRecDepth 10000
set_option maxHeartbeats 8000000
namespace Go.Proofs.YtcikcinkjbbnhaaDoor.M
open Go Go.Proofs

def colL (n : Int) (D : List Int) (k m : Nat) : List Int := (List.range m).map fun t => atM n n n D ((k + 1 + t : Nat) : Int) k
theorem colL_len (n : Int) (D : List Int) (k m : Nat) : (colL n D k m).length = m := by simp [colL]
theorem colL_in {n : Int} {D : List Int} (h : InD D) (k m : Nat) : InD (colL n D k m) := by
  intro x hx
  obtain ⟨i, _, rfl⟩ := List.mem_map.1 hx
  exact atM_in h _ _ _ _ _
/-- A reflection of rows and columns, of a matrix and of one that goes with it. -/
def both2 (n : Int) (V : List Int) (tau m : Int) (S : List Int × List Int) : List Int × List Int :=
  ((rightR n n V tau m (leftR n n V tau m (S.1, 0))).1, (rightR n n V tau m (S.2, (rightR n n V tau m (leftR n n V tau m (S.1, 0))).2)).1)
def zeroM (n : Int) (k : Nat) (m : Nat) (D : List Int) : List Int := iter (fun i D => setM n n n D ((k + 2 + i : Nat) : Int) k 0) m D
def redS (n : Int) (k : Nat) (S : List Int × List Int) : List Int × List Int :=
  let xs := colL n S.1 k (n.toNat - (k + 1))
  let T := both2 n (genV xs) (genT xs) ((k + 1 : Nat) : Int) S
  (zeroM n k (n.toNat - (k + 2)) (setM n n n T.1 ((k + 1 : Nat) : Int) k (genK xs).1), T.2)
def redL (n : Int) : Nat → Nat → List Int × List Int → Int × (List Int × List Int)
  | 0, _, S => (0, S)
  | f + 1, k, S => if ((k + 2 : Nat) : Int) < n then (if finL (colL n S.1 k (n.toNat - (k + 1))) = true then redL n f (k + 1) (redS n k S) else (6, S)) else (0, S)
structure SqOk (n : Int) (S : List Int × List Int) : Prop where
  a : MatOk n n S.1
  b : InD S.1
  c : MatOk n n S.2
  d : InD S.2
theorem both2_ok {n : Int} {S : List Int × List Int} (h : SqOk n S) (V : List Int) (tau m : Int) : SqOk n (both2 n V tau m S) := by
  have hX := leftR_ok (V := V) (tau := tau) (m := m) (S := (S.1, 0)) ⟨h.a, h.b⟩
  have hY := rightR_ok (V := V) (tau := tau) (m := m) hX
  have hZ := rightR_ok (V := V) (tau := tau) (m := m) (S := (S.2, (rightR n n V tau m (leftR n n V tau m (S.1, 0))).2)) ⟨h.c, h.d⟩
  exact ⟨hY.1, hY.2, hZ.1, hZ.2⟩
theorem zeroM_ok {n : Int} {D : List Int} (h : MatOk n n D) (hI : InD D) (k : Nat) : ∀ m, MatOk n n (zeroM n k m D) ∧ InD (zeroM n k m D)
  | 0 => ⟨h, hI⟩
  | m + 1 => ⟨(zeroM_ok h hI k m).1.set _ _ _, (zeroM_ok h hI k m).2.setm _ _ _ _ _ zero_in⟩
theorem redS_ok {n : Int} {S : List Int × List Int} (h : SqOk n S) (k : Nat) : SqOk n (redS n k S) := by
  have hT := both2_ok h (genV (colL n S.1 k (n.toNat - (k + 1)))) (genT (colL n S.1 k (n.toNat - (k + 1)))) ((k + 1 : Nat) : Int)
  have hz := zeroM_ok (hT.a.set ((k + 1 : Nat) : Int) k (genK (colL n S.1 k (n.toNat - (k + 1)))).1) (hT.b.setm n n n _ _ (genK_in (colL_in h.b k _))) k (n.toNat - (k + 2))
  exact ⟨hz.1, hz.2, hT.c, hT.d⟩
theorem redL_ok {n : Int} : ∀ {f k : Nat} {S : List Int × List Int}, SqOk n S → SqOk n (redL n f k S).2
  | 0, _, _, h => h
  | f + 1, k, S, h => by
    unfold redL
    split
    · split
      · exact redL_ok (redS_ok h k)
      · exact h
    · exact h
def redM (n : Int) (D : List Int) : Int × (List Int × List Int) := redL n n.toNat 0 (unitD n n D, oneM n)
theorem redM_ok {n : Int} {D : List Int} (h : MatOk n n D) (hI : InD D) : SqOk n (redM n D).2 := redL_ok ⟨unitD_ok h, unitD_in hI, oneM_ok ⟨h.r0, h.r1⟩, oneM_in n⟩

theorem Rd.set1 {H : MH} {n : Int} {N : Nat} {U U' E : List Int} {C : MH} {p p' : Nat} (h : Rd H n N U E C p p') : Rd H n N U' E (C.set p (some ⟨U'.map u64, true⟩)) p p' := by
  obtain ⟨l1, l2, l3⟩ := h.l1
  exact ⟨fun r hr => by rw [List.getElem?_set_ne (by omega)]; exact h.old r hr, (hget_set_ne (by omega) _).trans h.c1, (hget_set_ne (by omega) _).trans h.c2, (hget_set_ne l2 _).trans h.c4, (hget_set_ne l3 _).trans h.c6, hget_set_same (lt_of_hget h.h1) _, (hget_set_ne h.ne _).trans h.h2, h.ne, h.l1, h.l2⟩
theorem call_mem {P : Program} {Q : MQ} {f : MV} {args : List MV} {d L l F k ρ} {H : MH} (S : MH → Prop) (hS : S H) (h : ∀ C, S C → CallK P Q f args d L l F k ρ C) : CallK P Q f args d L l F k ρ H := h H hS
theorem redL_go {n : Int} {f k : Nat} {S : List Int × List Int} (h1 : ((k + 2 : Nat) : Int) < n) (h2 : finL (colL n S.1 k (n.toNat - (k + 1))) = true) : redL n (f + 1) k S = redL n f (k + 1) (redS n k S) := by
  rw [redL, if_pos h1, if_pos h2]
theorem redL_err {n : Int} {f k : Nat} {S : List Int × List Int} (h1 : ((k + 2 : Nat) : Int) < n) (h2 : finL (colL n S.1 k (n.toNat - (k + 1))) = false) : redL n (f + 1) k S = (6, S) := by
  rw [redL, if_pos h1, if_neg (by rw [h2]; decide)]
theorem redL_end {n : Int} {f k : Nat} {S : List Int × List Int} (h1 : ¬ ((k + 2 : Nat) : Int) < n) : redL n f k S = (0, S) := by
  cases f with
  | zero => rfl
  | succ f => rw [redL, if_neg h1]
theorem hgen_bad {H : MH} {v : MV} {xs : List Int} (hv : Sl H v xs) (hlen0 : 0 < xs.length ∧ xs.length ≤ 1000000) (hf : finL xs = false) : Spec Tryd.prog 11 [v] H fun u H' => u = .tup [.agg [.lit (.slice none 0 0), u64 0], u64 9221120237041090560, u8 0, i64 6] ∧ H' = H := by
  have hlen := len22 hv
  have hne0 : ((xs.length : Int) = 0) = False := eq_false (by omega)
  refine Spec.scalar (enterS Tryd.func11 [.cell 2 26, .tmp 3, .tmp 4, .tmp 5] ?_)
  repeat' first | (with_reducible (show W _ _ _ _ _); with_reducible refine go2 ?_) | (with_reducible (show W _ _ _ _ _); with_reducible refine sg2 ?_ ?_ <;> intro _) | (with_reducible (show W _ _ _ _ _); with_reducible refine sc2 ?_ ?_ <;> intro _) | (with_reducible (show W _ _ (.code (.region 12 _ true) :: _) _ _); with_reducible refine W_draw [(0, []), (1, []), (3, []), (4, []), (5, []), (2, [5]), (6, [5]), (7, []), (8, []), (9, [])] [5] (by kernel_rfl) ?_) | (with_reducible (show W _ _ (.code (.region 23 _ true) :: _) _ _); with_reducible refine W_draw [(0, []), (1, []), (2, []), (3, []), (4, [1]), (5, []), (6, []), (7, []), (8, [])] [1] (by kernel_rfl) ?_)
  refine W_for (fun j ρ H' => ∃ k : Nat, k + j = xs.length ∧ (∀ i, i < k → finiteM (xs.getD i 0) = true) ∧ ρ 2 = .ptr H.length 0 ∧ ρ 25 = v ∧ ρ 26 = i64 (xs.length : Int) ∧ ρ 27 = i64 k ∧ H' = H ++ [some ⟨[.lit (.slice none 0 0), u64 0], true⟩]) xs.length ?_ ?_
  · refine ⟨0, by omega, fun i hi => by omega, ?_⟩
    simp [put, args0]
  rintro j ρ H' ⟨k, hk, hall, h2, h25, h26, h27, rfl⟩
  replace hall : Hid2 (∀ i, i < k → finiteM (xs.getD i 0) = true) := hall
  have hia2 : (k : Int) < xs.length → iaV (.slice 1 8 (some [.int .u64 0]) true) v (.lit (.int .i64 k)) = some (ixq v k) := fun h => hv.ia (by omega) _ _ _ _
  have hld2 : ∀ (L : MH), (k : Int) < xs.length → loadV Tryd.prog 24 (ixq v k) (H ++ L) = some (u64 (xs.getD k 0)) := fun L h => (hv.app L).ld (by rw [ty_24]) (by rw [ty_24]) (by omega)
  have hend : ¬ (k : Int) < xs.length → False := fun h => by
    have : ∀ x ∈ xs, finiteM x = true := by
      intro x hx
      obtain ⟨i, hi, rfl⟩ := List.getElem_of_mem hx
      have := hall i (by omega)
      simpa [List.getD_eq_getElem?_getD, hi] using this
    have h2 : finL xs = true := List.all_eq_true.2 this
    rw [h2] at hf; cases hf
  by_cases hlt : (k : Int) < xs.length
  · repeat' first | (with_reducible (show W _ _ _ _ _); with_reducible refine go2 ?_) | (with_reducible (show W _ _ _ _ _); with_reducible refine sg2 ?_ ?_ <;> intro _) | (with_reducible (show W _ _ _ _ _); with_reducible refine sc2 ?_ ?_ <;> intro _) | (with_reducible (show CallK _ _ _ _ _ _ _ _ _ _ _); with_reducible refine ce2 (finite_spec _ _) ?_) | (with_reducible (show W _ _ (.code (.region 12 _ true) :: _) _ _); with_reducible refine W_draw [(0, []), (1, []), (3, []), (4, []), (5, []), (2, [5]), (6, [5]), (7, []), (8, []), (9, [])] [5] (by kernel_rfl) ?_) | (with_reducible (show W _ _ (.code (.region 23 _ true) :: _) _ _); with_reducible refine W_draw [(0, []), (1, []), (2, []), (3, []), (4, [1]), (5, []), (6, []), (7, []), (8, [])] [1] (by kernel_rfl) ?_)
    · trivial
    · rename_i hf2
      refine ⟨j - 1, by omega, k + 1, by omega, fun i hi => ?_, by rw [wrap_suc (n := (xs.length : Int)) (by assumption) (by omega)]⟩
      by_cases e : i = k
      · subst e; simpa using hf2
      · exact hall i (by omega)
  · exact (hend hlt).elim

theorem colL_sl (n : Int) (D : List Int) (k m : Nat) : colL n D k m = (List.range m).map fun t => atM n n n D ((k + 1 + t : Nat) : Int) k := rfl
theorem reduce_core {n : Int} {p z : Nat} {D : List Int} (h : MatOk n n D) (hI : InD D) (hn8 : n ≤ 90) {N : Nat} (hN : D.length = N) {H : MH} {rw : Bool} (hp : hget H p = some ⟨D.map u64, rw⟩) (hfin : finD D = true) :
    Spec Tryd.prog 35 [mx n n n p N z] H fun u H' => ((redM n D).1 = 0 ∧ ∃ p p', u = .tup [mx n n n p N N, mx n n n p' N N, i64 (unitE n n D), i64 0] ∧ p ≠ p' ∧ H.length ≤ p ∧ H.length ≤ p' ∧ hget H' p = some ⟨(redM n D).2.1.map u64, true⟩ ∧ hget H' p' = some ⟨(redM n D).2.2.map u64, true⟩ ∧ Old H H') ∨
      ((redM n D).1 = 6 ∧ u = .tup [mx0, mx0, i64 0, i64 6] ∧ Old H H') := by
  have hpl := lt_of_hget hp
  have hn : 0 ≤ n ∧ n ≤ 4096 := ⟨h.r0, h.r1⟩
  have hU := unitD_ok h
  have hUN : (unitD n n D).length = N := (unitD_len n n D).trans hN
  have hNN : (n * n).toNat = N := h.len.symm.trans hN
  have hE := oneM_ok hn
  have hEN : (oneM n).length = N := hE.len.trans hNN
  have hone : ∀ H : MH, Spec Tryd.prog 45 [i64 n] H fun v H' => v = mx n n n H.length N N ∧ H' = H ++ [some ⟨(oneM n).map u64, true⟩] := fun H => by have := one_spec hn H; rw [hNN] at this; exact this
  have hS0 : SqOk n (unitD n n D, oneM n) := ⟨hU, unitD_in hI, hE, oneM_in n⟩
  refine enterS Tryd.func35 [.cell 2 56, .cell 3 56, .tmp 4, .tmp 5] ?_
  obtain ⟨R, hR⟩ : ∃ R, redM n D = R := ⟨_, rfl⟩
  rw [hR]
  have hR2 : redL n n.toNat 0 (unitD n n D, oneM n) = R := hR
  clear hR
  repeat' first | (with_reducible (show W _ _ _ _ _); with_reducible refine go2 ?_) | (with_reducible (show W _ _ _ _ _); with_reducible refine sg2 ?_ ?_ <;> intro _) | (with_reducible (show W _ _ _ _ _); with_reducible refine sc2 ?_ ?_ <;> intro _) | (with_reducible (show CallK _ _ _ _ _ _ _ _ _ _ _); with_reducible refine ce2 (check_ok h hN _) ?_) | (with_reducible (show CallK _ _ _ _ _ _ _ _ _ _ _); with_reducible refine ce2 (finite_mspec h hN ((hget_old hpl).trans hp)) ?_) | (with_reducible (show W _ _ (.code (.region 24 _ true) :: _) _ _); with_reducible refine W_draw [(0, []), (1, []), (2, []), (3, [1]), (4, []), (5, []), (6, [])] [1] (by kernel_rfl) ?_) | ((with_reducible (show CallK _ _ _ _ _ _ _ _ _ _ _); first | (with_reducible refine cm2 (unit_mspec h hI hN ((hget_old hpl).trans hp)) ?_) | (with_reducible refine cm2 (hone _) ?_)))
  refine W_for (fun j ρ C => ∃ (k p1 p2 : Nat) (S : List Int × List Int), k + j = n.toNat ∧ redL n j k S = R ∧ SqOk n S ∧ ρ 2 = .ptr (H.length + 1) 0 ∧ ρ 3 = .ptr (H.length + 2) 0 ∧ ρ 6 = .ptr (H.length + 4) 0 ∧ ρ 7 = i64 (unitE n n D) ∧ ρ 8 = .ptr (H.length + 6) 0 ∧ ρ 9 = i64 k ∧ Rd H n N S.1 S.2 C p1 p2) n.toNat ?_ ?_
  · refine ⟨0, H.length + 3, H.length + 5, (unitD n n D, oneM n), by omega, hR2, hS0, ?_⟩
    have hs : ∀ L : MH, ∀ q, q < H.length → (H ++ L)[q]? = H[q]? := fun L q hq => List.getElem?_append_left hq
    simp [put, args0]
    exact ⟨hs _, hget_newL rfl, hget_newL rfl, hget_newL rfl, hget_newL rfl, hget_newL rfl, hget_newL rfl, by omega, by omega, by omega⟩
  clear hU hUN hE hEN hS0 hR2
  rintro j ρ C ⟨k, p1, p2, S, hk, hred, hS, r2, r3, r6, r7, r8, r9, hC⟩
  have hD1 := hS.a
  have hD1N : S.1.length = N := hD1.len.trans hNN
  have c4 := hC.c4
  have c6 := hC.c6
  have c1 := hC.c1
  have c2 := hC.c2
  have hCl := lt_of_hget hC.c6
  have s16 : ∀ x, hget (C.set (H.length + 1) x) (H.length + 6) = some ⟨[i64 n, i64 n, i64 n, .slice p2 0 N N 1], true⟩ := fun x => (hget_set_ne (by omega) _).trans c6
  have s12 : ∀ x, hget (C.set (H.length + 1) x) (H.length + 2) = some ⟨[i64 0, i64 0, i64 0, .lit (.slice none 0 0)], true⟩ := fun x => (hget_set_ne (by omega) _).trans c2
  have s1 : ∀ x y, hget ((C.set (H.length + 1) x).set (H.length + 2) y) (H.length + 1) = x := fun x y => (hget_set_ne (by omega) _).trans (hget_set_same (by omega) _)
  have s2 : ∀ x y, hget ((C.set (H.length + 1) x).set (H.length + 2) y) (H.length + 2) = y := fun x y => hget_set_same (by rw [List.length_set]; omega) _
  have w2 : (k : Int) + 2 ≤ 100 → IntKind.i64.wrap ((k : Int) + 2) = ((k + 2 : Nat) : Int) := fun h => wrap_i64 (by omega)
  have w1 : (k : Int) + 2 ≤ 100 → IntKind.i64.wrap ((k : Int) + 1) = ((k + 1 : Nat) : Int) := fun h => by rw [wrap_i64 (by omega)]; omega
  have kb : (k : Int) + 2 ≤ 100 := by omega
  have e2 := w2 kb
  have e1 := w1 kb
  clear w2 w1
  repeat' first | (with_reducible (show W _ _ _ _ _); with_reducible refine go2 ?_) | (with_reducible (show W _ _ _ _ _); with_reducible refine sg2 ?_ ?_ <;> intro _) | (with_reducible (show W _ _ _ _ _); with_reducible refine sc2 ?_ ?_ <;> intro _) | (with_reducible (show W _ _ (.code (.region 24 _ true) :: _) _ _); with_reducible refine W_draw [(0, []), (1, []), (2, []), (3, [1]), (4, []), (5, []), (6, [])] [1] (by kernel_rfl) ?_)
  · rename_i hlt
    refine W_for (fun j' ρ C => ∃ m : Nat, k + 1 + m + j' = n.toNat ∧ ρ 2 = .ptr (H.length + 1) 0 ∧ ρ 3 = .ptr (H.length + 2) 0 ∧ ρ 6 = .ptr (H.length + 4) 0 ∧ ρ 7 = i64 (unitE n n D) ∧ ρ 8 = .ptr (H.length + 6) 0 ∧ ρ 9 = i64 k ∧ ρ 11 = i64 ((k + 1 + m : Nat) : Int) ∧
      Rd H n N S.1 S.2 C p1 p2 ∧ Xs H C p1 p2 (fun t => atM n n n S.1 ((k + 1 + t : Nat) : Int) k) m (ρ 10)) (n.toNat - (k + 1)) ?_ ?_
    · refine ⟨0, by omega, ?_⟩
      simp [put, *, Xs]
    clear r2 r3 r6 r7 r8 r9 c4 c6 hC c1 c2 hCl s16 s12 s1 s2
    rintro j' ρ' C ⟨m, hm, r2, r3, r6, r7, r8, r9, r11, hC, hx⟩
    have c4 := hC.c4
    have c6 := hC.c6
    have hp1 := hC.h1
    have hbs : ∀ x : Int, bsV (.slice 1 8 (some [.int .u64 0]) true) 1 [(0, u64 x)] = some ([u64 x], 1) := fun x => _root_.id rfl
    have hty : (ty Tryd.prog 22).k = .slice 1 8 (some [.int .u64 0]) true := by rw [ty_22]
    have e3 : IntKind.i64.wrap (((k + 1 + m : Nat) : Int) + 1) = ((k + 1 + (m + 1) : Nat) : Int) := by rw [wrap_i64 (by omega)]; omega
    repeat' first | (with_reducible (show W _ _ _ _ _); with_reducible refine go2 ?_) | (with_reducible (show W _ _ _ _ _); with_reducible refine sg2 ?_ ?_ <;> intro _) | (with_reducible (show W _ _ _ _ _); with_reducible refine sc2 ?_ ?_ <;> intro _) | (with_reducible (show CallK _ _ _ _ _ _ _ _ _ _ _); with_reducible refine ce2 (at_ok hD1 _ _ hp1 hD1N) ?_) | (with_reducible (show W _ _ (.code (.region 24 _ true) :: _) _ _); with_reducible refine W_draw [(0, []), (1, []), (2, []), (3, [1]), (4, []), (5, []), (6, [])] [1] (by kernel_rfl) ?_) | ((with_reducible (show AppK _ _ _ _ _ _ _ _ _ _); with_reducible refine app_xs hC hx (by omega) hty rfl ?_; rintro v' C' hC' hx'))
    · exact ⟨j' - 1, by omega, m + 1, by omega, rfl, hx'⟩
    have hm2 : k + 1 + m = n.toNat := by omega
    have hmm : n.toNat - (k + 1) = m := by omega
    rcases hx with ⟨rfl, _⟩ | ⟨px, c, r10, hmc, hpx, l1, l2, l3⟩
    · omega
    obtain ⟨f, rfl⟩ : ∃ f, j = f + 1 := ⟨j - 1, by omega⟩
    have hxs : hget C px = some ⟨(colL n S.1 k m).map u64, true⟩ := hpx
    have hxl := colL_len n S.1 k m
    have hxI := colL_in (n := n) hS.b k m
    have hxc : ∀ i, i < (colL n S.1 k m).length → ((colL n S.1 k m).map u64)[0 + i]? = some (u64 ((colL n S.1 k m).getD i 0)) := fun i hi => by simp [List.getD_eq_getElem?_getD, hi]
    have hCl := lt_of_hget hC.c6
    have c1 := hC.c1
    have c2 := hC.c2
    have s12 : ∀ x L, hget (C.set (H.length + 1) x ++ L) (H.length + 2) = some ⟨[i64 0, i64 0, i64 0, .lit (.slice none 0 0)], true⟩ := fun x L => by rw [hget_old (by rw [List.length_set]; omega)]; exact (hget_set_ne (by omega) _).trans c2
    rw [r10]
    cases hf : finL (colL n S.1 k m)
    · have hgen := hgen_bad (H := C) (v := .slice px 0 m c 1) (xs := colL n S.1 k m) (.inr ⟨px, 0, c, _, by rw [hxl], hxs, hxc⟩) (by omega) hf
      have d1 : ∀ L, hget (C ++ L) (H.length + 1) = some ⟨[i64 0, i64 0, i64 0, .lit (.slice none 0 0)], true⟩ := fun L => hget_appL c1
      have q1 : H.length + 1 < C.length := by omega
      have q2 : H.length + 2 < C.length := by omega
      have s1 : ∀ x y L, hget ((C.set (H.length + 1) x).set (H.length + 2) y ++ L) (H.length + 1) = x := fun x y L => by rw [hget_old (by simp only [List.length_set]; omega)]; exact (hget_set_ne (by omega) _).trans (hget_set_same (by omega) _)
      have s2 : ∀ x y L, hget ((C.set (H.length + 1) x).set (H.length + 2) y ++ L) (H.length + 2) = y := fun x y L => by rw [hget_old (by simp only [List.length_set]; omega)]; exact hget_set_same (by rw [List.length_set]; omega) _
      rw [redL_err (by assumption) (by rw [hmm]; exact hf)] at hred
      subst hred
      have ho : Old H C := ⟨by omega, hC.old⟩
      repeat' first | (with_reducible (show W _ _ _ _ _); with_reducible refine go2 ?_) | (with_reducible (show W _ _ _ _ _); with_reducible refine sg2 ?_ ?_ <;> intro _) | (with_reducible (show W _ _ _ _ _); with_reducible refine sc2 ?_ ?_ <;> intro _) | (with_reducible (show W _ _ (.code (.region 24 _ true) :: _) _ _); with_reducible refine W_draw [(0, []), (1, []), (2, []), (3, [1]), (4, []), (5, []), (6, [])] [1] (by kernel_rfl) ?_) | ((with_reducible (show CallK _ _ _ _ _ _ _ _ _ _ _); with_reducible refine cm2 hgen ?_))
      exact ((ho.setq _ (by omega)).setq _ (by omega)).app _
    · have hgen := hgen_spec hxs hxc (c := c) (by omega) (by omega) hf hxI
      rw [hxl] at hgen
      (with_reducible (show CallK _ _ _ _ _ _ _ _ _ _ _)); with_reducible refine cx2 hgen ?_
      rintro u' H' ⟨q, hq, rfl, rfl⟩
      rw [redL_go (by assumption) (by rw [hmm]; exact hf)] at hred
      have hVl : (genV (colL n S.1 k m)).length = m := by rw [genV_len (by omega)]; exact hxl
      have hVI := genV_in (colL n S.1 k m)
      have hT := both2_ok hS (genV (colL n S.1 k m)) (genT (colL n S.1 k m)) ((k + 1 : Nat) : Int)
      have hrows : rowsB (genV (colL n S.1 k m)).length n ((k + 1 : Nat) : Int) = true := by
        rw [hVl]
        simp only [rowsB, Bool.and_eq_true, decide_eq_true_eq]
        rw [wrap_i64 (by omega)]
        omega
      have hsl : ∀ L : MH, Sl (C ++ some ⟨(genV (colL n S.1 k m)).map u64, true⟩ :: L) (.slice C.length 0 m q 1) (genV (colL n S.1 k m)) := fun L => .inr ⟨C.length, 0, q, _, by rw [hVl], hget_new', fun i hi => by simp [List.getD_eq_getElem?_getD, hi]⟩
      have hE1N : S.2.length = N := hS.c.len.trans hNN
      have hp2 := hC.h2
      have hCl4 := lt_of_hget hC.c4
      have t46 : ∀ x, hget (C.set (H.length + 4) x) (H.length + 6) = some ⟨[i64 n, i64 n, i64 n, .slice p2 0 N N 1], true⟩ := fun x => (hget_set_ne (by omega) _).trans c6
      have t4 : ∀ x y L, hget ((C.set (H.length + 4) x).set (H.length + 6) y ++ L) (H.length + 4) = x := fun x y L => by
        rw [hget_old (by simp only [List.length_set]; omega), hget_set_ne (by omega), hget_set_same (by omega)]
      have t6 : ∀ x y L, hget ((C.set (H.length + 4) x).set (H.length + 6) y ++ L) (H.length + 6) = y := fun x y L => by
        rw [hget_old (by simp only [List.length_set]; omega), hget_set_same (by rw [List.length_set]; omega)]
      have tU : ∀ x y a b o L, hget ((C.set (H.length + 4) x).set (H.length + 6) y ++ a :: b :: some o :: L) (C.length + 2) = some o := fun x y a b o L => by
        unfold hget
        rw [List.getElem?_append_right (by simp)]
        simp
      have tE : ∀ x y a b c o L, hget ((C.set (H.length + 4) x).set (H.length + 6) y ++ a :: b :: c :: some o :: L) (C.length + 3) = some o := fun x y a b c o L => by
        unfold hget
        rw [List.getElem?_append_right (by simp)]
        simp
      have h23 : C.length + 2 + 1 = C.length + 3 := rfl
      have hboth := fun L => both_okG hS.a hS.b hS.c hS.d hD1N hE1N (z := N) (z' := N) (hget_appL (L := some ⟨(genV (colL n S.1 k m)).map u64, true⟩ :: L) hp1) (hget_appL hp2) (hsl L) hVI (genT (colL n S.1 k m)) _ hrows
      change ∀ L, Spec Tryd.prog 74 _ _ fun u H' => _ ∧ H' = _ ++ [some ⟨(both2 n (genV (colL n S.1 k m)) (genT (colL n S.1 k m)) ((k + 1 : Nat) : Int) S).1.map u64, true⟩, some ⟨(both2 n (genV (colL n S.1 k m)) (genT (colL n S.1 k m)) ((k + 1 : Nat) : Int) S).2.map u64, true⟩] at hboth
      repeat' first | (with_reducible (show W _ _ _ _ _); with_reducible refine go2 ?_) | (with_reducible (show W _ _ _ _ _); with_reducible refine sg2 ?_ ?_ <;> intro _) | (with_reducible (show W _ _ _ _ _); with_reducible refine sc2 ?_ ?_ <;> intro _) | (with_reducible (show W _ _ (.code (.region 24 _ true) :: _) _ _); with_reducible refine W_draw [(0, []), (1, []), (2, []), (3, [1]), (4, []), (5, []), (6, [])] [1] (by kernel_rfl) ?_) | ((with_reducible (show CallK _ _ _ _ _ _ _ _ _ _ _); with_reducible refine cm2 (hboth _) ?_))
      have hred2 : redS n k S = (zeroM n k (n.toNat - (k + 2)) (setM n n n (both2 n (genV (colL n S.1 k m)) (genT (colL n S.1 k m)) ((k + 1 : Nat) : Int) S).1 ((k + 1 : Nat) : Int) k (genK (colL n S.1 k m)).1), (both2 n (genV (colL n S.1 k m)) (genT (colL n S.1 k m)) ((k + 1 : Nat) : Int) S).2) := by unfold redS; rw [hmm]
      rw [hred2] at hred
      clear hred2 hboth hsl
      have hK := genK_in hxI
      generalize both2 n (genV (colL n S.1 k m)) (genT (colL n S.1 k m)) ((k + 1 : Nat) : Int) S = T at hT hred ⊢
      generalize (genK (colL n S.1 k m)).1 = beta at hK hred ⊢
      have hTN : T.1.length = N := hT.a.len.trans hNN
      refine call_mem (Rd H n N T.1 T.2 · (C.length + 2) (C.length + 3)) ?_ ?_
      · refine ⟨fun q hq => ?_, ?_, ?_, t4 _ _ _, t6 _ _ _, tU _ _ _ _ _ _, tE _ _ _ _ _ _ _, by omega, by omega, by omega⟩
        · rw [List.getElem?_append_left (by simp only [List.length_set]; omega), List.getElem?_set_ne (by omega), List.getElem?_set_ne (by omega)]
          exact hC.old q hq
        · rw [hget_old (by simp only [List.length_set]; omega), hget_set_ne (by omega), hget_set_ne (by omega)]
          exact hC.c1
        · rw [hget_old (by simp only [List.length_set]; omega), hget_set_ne (by omega), hget_set_ne (by omega)]
          exact hC.c2
      intro C1 hC1
      generalize C.length + 2 = p1', C.length + 3 = p2' at hC1 ⊢
      have hT2 := hT.a.set ((k + 1 : Nat) : Int) k beta
      have hT2I := hT.b.setm n n n ((k + 1 : Nat) : Int) k hK
      (with_reducible (show CallK _ _ _ _ _ _ _ _ _ _ _)); with_reducible refine cm2 (set_ok hT.a _ _ _ hC1.h1 hTN) ?_
      have hC2 := hC1.set1 (U' := setM n n n T.1 ((k + 1 : Nat) : Int) k beta)
      generalize setM n n n T.1 ((k + 1 : Nat) : Int) k beta = Z at hT2 hT2I hred hC2 ⊢
      generalize C1.set p1' (some ⟨Z.map u64, true⟩) = C2 at hC2 ⊢
      repeat' first | (with_reducible (show W _ _ _ _ _); with_reducible refine go2 ?_) | (with_reducible (show W _ _ _ _ _); with_reducible refine sg2 ?_ ?_ <;> intro _) | (with_reducible (show W _ _ _ _ _); with_reducible refine sc2 ?_ ?_ <;> intro _) | (with_reducible (show W _ _ (.code (.region 24 _ true) :: _) _ _); with_reducible refine W_draw [(0, []), (1, []), (2, []), (3, [1]), (4, []), (5, []), (6, [])] [1] (by kernel_rfl) ?_)
      refine W_for (fun j' ρ C' => ∃ m : Nat, k + 2 + m + j' = n.toNat ∧ ρ 2 = .ptr (H.length + 1) 0 ∧ ρ 3 = .ptr (H.length + 2) 0 ∧ ρ 6 = .ptr (H.length + 4) 0 ∧ ρ 7 = i64 (unitE n n D) ∧ ρ 8 = .ptr (H.length + 6) 0 ∧ ρ 9 = i64 k ∧ ρ 16 = i64 ((k + 2 + m : Nat) : Int) ∧
        Rd H n N (zeroM n k m Z) T.2 C' p1' p2') (n.toNat - (k + 2)) ?_ ?_
      · exact ⟨0, by omega, r2, r3, r6, r7, r8, r9, rfl, hC2⟩
      clear r2 r3 r6 r7 r8 r9 c4 c6 hC r10 r11 t46 t4 t6 tU tE hgen hrows hpx hC1 hC2 c1 c2 s12
      rintro j'' ρ'' C' ⟨m', hm', r2, r3, r6, r7, r8, r9, r16, hC⟩
      have c4 := hC.c4
      have hp1 := hC.h1
      obtain ⟨hZ, hZI⟩ := zeroM_ok hT2 hT2I k m'
      have hZN := hZ.len.trans hNN
      have e4 : IntKind.i64.wrap (((k + 2 + m' : Nat) : Int) + 1) = ((k + 2 + (m' + 1) : Nat) : Int) := by rw [wrap_i64 (by omega)]; omega
      repeat' first | (with_reducible (show W _ _ _ _ _); with_reducible refine go2 ?_) | (with_reducible (show W _ _ _ _ _); with_reducible refine sg2 ?_ ?_ <;> intro _) | (with_reducible (show W _ _ _ _ _); with_reducible refine sc2 ?_ ?_ <;> intro _) | (with_reducible (show W _ _ (.code (.region 24 _ true) :: _) _ _); with_reducible refine W_draw [(0, []), (1, []), (2, []), (3, [1]), (4, []), (5, []), (6, [])] [1] (by kernel_rfl) ?_) | ((with_reducible (show CallK _ _ _ _ _ _ _ _ _ _ _); with_reducible refine cm2 (set_ok hZ _ _ _ hp1 hZN) ?_))
      · exact ⟨j'' - 1, by omega, m' + 1, by omega, rfl, hC.set1⟩
      · have hmz : m' = n.toNat - (k + 2) := by omega
        subst hmz
        exact ⟨f, by omega, k + 1, p1', p2', _, by omega, hred, ⟨hZ, hZI, hT.c, hT.d⟩, rfl, hC⟩
  · rename_i hge
    rw [redL_end hge] at hred
    subst hred
    have l1 := hC.l1
    have l2 := hC.l2
    refine .inl ⟨rfl, p1, p2, rfl, hC.ne, by omega, by omega, ?_, ?_, ?_⟩
    · rw [hget_set_ne (by omega), hget_set_ne (by omega)]; exact hC.h1
    · rw [hget_set_ne (by omega), hget_set_ne (by omega)]; exact hC.h2
    · refine ⟨by simp only [List.length_set]; omega, fun q hq => ?_⟩
      rw [List.getElem?_set_ne (by omega), List.getElem?_set_ne (by omega)]
      exact hC.old q hq
end Go.Proofs.YtcikcinkjbbnhaaDoor.M

/- hess.Reduce: what it answers. -/
set_option linter.unusedSimpArgs false
set_option linter.unusedVariables false
set_option pp.deepTerms false
set_option pp.maxSteps 1500
set_option maxRecDepth 10000
set_option maxHeartbeats 8000000
namespace Go.Proofs.YtcikcinkjbbnhaaDoor.M
open Go Go.Proofs

theorem Old.junk {H C : MH} (h : Old H C) : ∃ J, C = H ++ J := by
  refine ⟨C.drop H.length, ?_⟩
  have ht : C.take H.length = H := by
    apply List.ext_getElem?
    intro i
    rw [List.getElem?_take]
    split
    · exact h.2 i (by assumption)
    · rw [List.getElem?_eq_none (by omega)]
  conv => lhs; rw [← List.take_append_drop H.length C, ht]
theorem reduce_ok {n : Int} {p z : Nat} {D : List Int} (h : MatOk n n D) (hI : InD D) (hn8 : n ≤ 90) {N : Nat} (hN : D.length = N) {H : MH} {rw : Bool} (hp : hget H p = some ⟨D.map u64, rw⟩) (hfin : finD D = true) (hR : (redM n D).1 = 0) :
    Spec Tryd.prog 35 [mx n n n p N z] H fun u H' => u = .tup [mx n n n H.length N N, mx n n n (H.length + 1) N N, i64 (unitE n n D), i64 0] ∧ H' = H ++ [some ⟨(redM n D).2.1.map u64, true⟩, some ⟨(redM n D).2.2.map u64, true⟩] := by
  refine Spec.twoX (v := fun p p' => .tup [mx n n n p N N, mx n n n p' N N, i64 (unitE n n D), i64 0]) (closed_u64 _) (closed_u64 _) (fun p p' => by simp [Cl, Cls']) (fun π p p' _ _ => by simp [ren, rens]) ?_
  refine (reduce_core h hI hn8 hN (z := z) hp hfin).mono ?_
  rintro u H' (⟨_, p1, p2, h1, h2, h3, h4, h5, h6, h7⟩ | ⟨h1, _⟩)
  · exact ⟨p1, p2, h1, h2, h3, h4, h5, h6, h7.2⟩
  · rw [hR] at h1; cases h1
theorem reduce_er {n : Int} {p z : Nat} {D : List Int} (h : MatOk n n D) (hI : InD D) (hn8 : n ≤ 90) {N : Nat} (hN : D.length = N) {H : MH} {rw : Bool} (hp : hget H p = some ⟨D.map u64, rw⟩) (hfin : finD D = true) (hR : ¬ (redM n D).1 = 0) :
    Spec Tryd.prog 35 [mx n n n p N z] H fun u H' => u = .tup [mx0, mx0, i64 0, i64 6] ∧ H' = H := by
  refine Spec.scalar ((reduce_core h hI hn8 hN (z := z) hp hfin).mono ?_)
  rintro u H' (⟨h1, _⟩ | ⟨_, h1, h2⟩)
  · exact absurd h1 hR
  · exact ⟨h2.junk, by rw [h1]; simp [Cl, Cls'], h1⟩
theorem reduce_nf {n : Int} {p z : Nat} {D : List Int} (h : MatOk n n D) {N : Nat} (hN : D.length = N) {H : MH} {rw : Bool} (hp : hget H p = some ⟨D.map u64, rw⟩) (hfin : finD D = false) :
    Spec Tryd.prog 35 [mx n n n p N z] H fun u H' => u = .tup [mx0, mx0, i64 0, i64 6] ∧ H' = H := by
  have hpl := lt_of_hget hp
  refine Spec.scalar (enterS Tryd.func35 [.cell 2 56, .cell 3 56, .tmp 4, .tmp 5] ?_)
  repeat' first | (with_reducible (show W _ _ _ _ _); with_reducible refine go2 ?_) | (with_reducible (show W _ _ _ _ _); with_reducible refine sg2 ?_ ?_ <;> intro _) | (with_reducible (show W _ _ _ _ _); with_reducible refine sc2 ?_ ?_ <;> intro _) | (with_reducible (show CallK _ _ _ _ _ _ _ _ _ _ _); with_reducible refine ce2 (check_ok h hN _) ?_) | (with_reducible (show CallK _ _ _ _ _ _ _ _ _ _ _); with_reducible refine ce2 (finite_mspec h hN ((hget_old hpl).trans hp)) ?_) | (with_reducible (show W _ _ (.code (.region 24 _ true) :: _) _ _); with_reducible refine W_draw [(0, []), (1, []), (2, []), (3, [1]), (4, []), (5, []), (6, [])] [1] (by kernel_rfl) ?_)
  all_goals trivial
theorem reduce_shape {r c : Int} {p z : Nat} {D : List Int} (h : MatOk r c D) (hrc : ¬ r = c) {N : Nat} (hN : D.length = N) (H : MH) :
    Spec Tryd.prog 35 [mx r c c p N z] H fun u H' => u = .tup [mx0, mx0, i64 0, i64 4] ∧ H' = H := by
  refine Spec.scalar (enterS Tryd.func35 [.cell 2 56, .cell 3 56, .tmp 4, .tmp 5] ?_)
  repeat' first | (with_reducible (show W _ _ _ _ _); with_reducible refine go2 ?_) | (with_reducible (show W _ _ _ _ _); with_reducible refine sg2 ?_ ?_ <;> intro _) | (with_reducible (show W _ _ _ _ _); with_reducible refine sc2 ?_ ?_ <;> intro _) | (with_reducible (show CallK _ _ _ _ _ _ _ _ _ _ _); with_reducible refine ce2 (check_ok h hN _) ?_) | (with_reducible (show W _ _ (.code (.region 24 _ true) :: _) _ _); with_reducible refine W_draw [(0, []), (1, []), (2, []), (3, [1]), (4, []), (5, []), (6, [])] [1] (by kernel_rfl) ?_)
  all_goals trivial
/-- A matrix whose rows lie one over the other is none. -/
theorem check_str {r c s : Int} (hs : s < c) (p n z : Nat) (H : MH) : Spec Tryd.prog 71 [mx r c s p n z] H fun v H' => v = i64 4 ∧ H' = H := by
  refine Spec.scalar (enterS Tryd.func71 [.tmp 2] ?_)
  repeat' first | (with_reducible (show W _ _ _ _ _); with_reducible refine go2 ?_) | (with_reducible (show W _ _ _ _ _); with_reducible refine sg2 ?_ ?_ <;> intro _) | (with_reducible (show W _ _ _ _ _); with_reducible refine sc2 ?_ ?_ <;> intro _)
  all_goals trivial
theorem reduce_str {r c s : Int} (hs : s < c) (p N z : Nat) (H : MH) :
    Spec Tryd.prog 35 [mx r c s p N z] H fun u H' => u = .tup [mx0, mx0, i64 0, i64 4] ∧ H' = H := by
  refine Spec.scalar (enterS Tryd.func35 [.cell 2 56, .cell 3 56, .tmp 4, .tmp 5] ?_)
  repeat' first | (with_reducible (show W _ _ _ _ _); with_reducible refine go2 ?_) | (with_reducible (show W _ _ _ _ _); with_reducible refine sg2 ?_ ?_ <;> intro _) | (with_reducible (show W _ _ _ _ _); with_reducible refine sc2 ?_ ?_ <;> intro _) | (with_reducible (show CallK _ _ _ _ _ _ _ _ _ _ _); with_reducible refine ce2 (check_str hs _ _ _ _) ?_) | (with_reducible (show W _ _ (.code (.region 24 _ true) :: _) _ _); with_reducible refine W_draw [(0, []), (1, []), (2, []), (3, [1]), (4, []), (5, []), (6, [])] [1] (by kernel_rfl) ?_)
  all_goals trivial
end Go.Proofs.YtcikcinkjbbnhaaDoor.M
