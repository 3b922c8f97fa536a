/- The law SchurTurns, in the small machine. -/
import Derived.Test.YthkafhjfaekaiaaC13
import Derived.Test.YthkafhjfaekaiaaC14
set_option linter.unusedSimpArgs false
set_option linter.unusedVariables false
set_option maxRecDepth 100000
set_option maxHeartbeats 8000000
namespace Go.Proofs.Ythkafhjfaekaiaa.M
open Go Go.Proofs

theorem and7 (n : Int) : 0 ≤ bits .and .i64 n 7 ∧ bits .and .i64 n 7 ≤ 7 := by
  unfold bits
  dsimp only
  rw [BitVec.toNat_and]
  have h : (BitVec.ofInt IntKind.i64.bits n).toNat &&& (BitVec.ofInt IntKind.i64.bits 7).toNat ≤ 7 := Nat.and_le_right
  rw [wrap_i64 (by omega)]
  omega
theorem turn_in {n : Int} {p q : Nat} {D E : List Int} (hD : MatOk n n D) (hE : MatOk n n E) (c s a : Int) (hin : 0 ≤ a ∧ a ≤ n - 2) {H : MH} (hp : hget H p = some ⟨D.map u64, true⟩) (hq : hget H q = some ⟨E.map u64, true⟩) (hpq : p ≠ q) {N : Nat} (hN : (n * n).toNat = N) :
    Spec Try.prog 18 [mx n n n p N N, mx n n n q N N, .agg [u64 c, u64 s], i64 a] H fun v H' => v = .tup [] ∧
      H' = (H.set p (some ⟨(colsM n c s a n.toNat (rowsM n c s a n.toNat D)).map u64, true⟩)).set q (some ⟨(colsM n c s a n.toNat E).map u64, true⟩) := by
  have := hD.r1
  have h := turn_spec hD hE c s a (by omega) hp hq hpq hN
  rw [if_pos hin] at h
  exact h
theorem turn_out {n : Int} {p q : Nat} {D E : List Int} (hD : MatOk n n D) (hE : MatOk n n E) (c s a : Int) (ha : -9223372036854775808 ≤ a ∧ a < 9223372036854775808) (hin : ¬ (0 ≤ a ∧ a ≤ n - 2)) {H : MH} (hp : hget H p = some ⟨D.map u64, true⟩) (hq : hget H q = some ⟨E.map u64, true⟩) (hpq : p ≠ q) {N : Nat} (hN : (n * n).toNat = N) :
    Spec Try.prog 18 [mx n n n p N N, mx n n n q N N, .agg [u64 c, u64 s], i64 a] H fun v H' => v = .tup [] ∧ H' = H := by
  have h := turn_spec hD hE c s a ha hp hq hpq hN
  rw [if_neg hin] at h
  exact h
theorem len_of_Sl {P : Program} {t : TypeId} {H : MH} {v : MV} {xs : List Int} (h : Sl H v xs) {a b c d} (hk : (ty P t).k = .slice a b c d) : lenV P t v = some (i64 (xs.length : Int)) := by
  rcases h with ⟨rfl, a, rfl⟩ | ⟨p, o, c, ob, rfl, _, _⟩
  · simp [lenV, hk]
  · simp [lenV, hk]

theorem turns_in (n : Int) {v : MV} {xs : List Int} {H : MH} (hv : Sl H v xs) (c s a : Int) (ha : -9223372036854775808 ≤ a ∧ a < 9223372036854775808) (hin : 0 ≤ a ∧ a ≤ bits .and .i64 n 7 - 2) : Spec Try.prog 4 [i64 n, v, .agg [u64 c, u64 s], i64 a] H fun v H' => v = bl true ∧ H' = H := by
  have hlen22 : lenV Try.prog 22 v = some (i64 (xs.length : Int)) := len_of_Sl hv (by rw [ty_22])
  have h7 := and7 n
  refine Spec.scalar (enterS Try.func4 [.tmp 8] ?_)
  repeat' first | (with_reducible (show W _ _ _ _ _); with_reducible refine go2 ?_) | (with_reducible (show W _ _ _ _ _); with_reducible refine sg2 ?_ ?_ <;> intro _) | (with_reducible (show W _ _ _ _ _); with_reducible refine sc2 ?_ ?_ <;> intro _) | (with_reducible (show CallK _ _ _ _ _ _ _ _ _ _ _); with_reducible refine ce2 (head19_spec _) ?_) | (with_reducible (show W _ _ (.code (.region 15 _ true) :: _) _ _); with_reducible refine W_draw [(0, []), (1, []), (2, []), (3, []), (5, []), (6, []), (7, []), (8, []), (4, [0, 5]), (9, [0]), (10, []), (11, []), (12, []), (13, []), (14, []), (15, [])] [0, 5] (by kernel_rfl) ?_) | (with_reducible (show W _ _ (.code (.region 21 _ true) :: _) _ _); with_reducible refine W_draw [(0, []), (1, []), (2, []), (3, []), (5, []), (6, []), (7, []), (8, []), (4, [0, 5]), (9, [0]), (10, []), (11, []), (12, []), (13, []), (14, []), (15, [])] [0, 5] (by kernel_rfl) ?_) | (with_reducible (show W _ _ (.code (.region 24 _ true) :: _) _ _); with_reducible refine W_draw [(0, []), (1, []), (2, []), (3, []), (5, []), (6, []), (7, []), (8, []), (4, [0, 5]), (9, [0]), (10, []), (11, []), (12, []), (13, []), (14, []), (15, [])] [0, 5] (by kernel_rfl) ?_)
  · trivial
  generalize hm : bits .and .i64 n 7 = m at hin h7
  have h40 : 0 ≤ m ∧ m ≤ 4096 := by omega
  generalize hN : (m * m).toNat = N
  have hw : IntKind.i64.wrap (m - 2) = m - 2 := wrap_i64 (by omega)
  have hwa : IntKind.i64.wrap (a + 1) = a + 1 := wrap_i64 (by omega)
  have okM := made_ok h40 xs 0 N
  have lM := okM.len.trans hN
  have okO := oneM_ok h40
  have lO := okO.len.trans hN
  repeat' first | (with_reducible (show W _ _ _ _ _); with_reducible refine go2 ?_) | (with_reducible (show W _ _ _ _ _); with_reducible refine sg2 ?_ ?_ <;> intro _) | (with_reducible (show W _ _ _ _ _); with_reducible refine sc2 ?_ ?_ <;> intro _) | (with_reducible (show W _ _ (.code (.region 15 _ true) :: _) _ _); with_reducible refine W_draw [(0, []), (1, []), (2, []), (3, []), (5, []), (6, []), (7, []), (8, []), (4, [0, 5]), (9, [0]), (10, []), (11, []), (12, []), (13, []), (14, []), (15, [])] [0, 5] (by kernel_rfl) ?_) | (with_reducible (show W _ _ (.code (.region 21 _ true) :: _) _ _); with_reducible refine W_draw [(0, []), (1, []), (2, []), (3, []), (5, []), (6, []), (7, []), (8, []), (4, [0, 5]), (9, [0]), (10, []), (11, []), (12, []), (13, []), (14, []), (15, [])] [0, 5] (by kernel_rfl) ?_) | (with_reducible (show W _ _ (.code (.region 24 _ true) :: _) _ _); with_reducible refine W_draw [(0, []), (1, []), (2, []), (3, []), (5, []), (6, []), (7, []), (8, []), (4, [0, 5]), (9, [0]), (10, []), (11, []), (12, []), (13, []), (14, []), (15, [])] [0, 5] (by kernel_rfl) ?_) | ((with_reducible (show CallK _ _ _ _ _ _ _ _ _ _ _); first | (with_reducible refine cm2 (made_spec h40 (Sl.app hv _) 0 hN) ?_) | (with_reducible refine cm2 (one_spec h40 _) ?_) | (with_reducible refine cm2 (turn_in okM okO c s a hin hget_new hget_new (by omega) hN) ?_)))
  generalize hM1 : colsM m c s a m.toNat (rowsM m c s a m.toNat (madeM m xs 0 N)) = M1
  generalize hZ1 : colsM m c s a m.toNat (oneM m) = Z1
  have okM1 : MatOk m m M1 := by rw [← hM1]; exact cols_ok (rows_ok okM c s a _) c s a _
  have okZ1 : MatOk m m Z1 := by rw [← hZ1]; exact cols_ok okO c s a _
  have lM1 := okM1.len.trans hN
  have lZ1 := okZ1.len.trans hN
  refine W_for (fun j ρ H' => ∃ k : Nat, k + j = m.toNat ∧ ρ 0 = i64 m ∧ ρ 3 = i64 a ∧ ρ 6 = .ptr H.length 0 ∧ ρ 9 = .ptr (H.length + 2) 0 ∧ ρ 10 = .ptr (H.length + 4) 0 ∧ ρ 11 = .ptr (H.length + 6) 0 ∧ ρ 12 = .ptr (H.length + 8) 0 ∧ ρ 13 = i64 k ∧
    H' = H ++ [some ⟨[u64 c, u64 s], true⟩, some ⟨M1.map u64, true⟩, some ⟨[i64 m, i64 m, i64 m, .slice (H.length + 1) 0 N N 1], true⟩, some ⟨Z1.map u64, true⟩, some ⟨[i64 m, i64 m, i64 m, .slice (H.length + 3) 0 N N 1], true⟩,
      some ⟨(rowsM m c s a k (madeM m xs 0 N)).map u64, true⟩, some ⟨[i64 m, i64 m, i64 m, .slice (H.length + 5) 0 N N 1], true⟩, some ⟨(oneM m).map u64, true⟩, some ⟨[i64 m, i64 m, i64 m, .slice (H.length + 7) 0 N N 1], true⟩]) m.toNat ?_ ?_
  · refine ⟨0, by omega, ?_⟩
    simp [put, args0, rowsM, iter, hM1, hZ1, hm]
  rintro j ρ H' ⟨k, hk, h0, h3, h6, h9, h10, h11, h12, h13, rfl⟩
  have okX := rows_ok okM c s a k
  have lX := okX.len.trans hN
  repeat' first | (with_reducible (show W _ _ _ _ _); with_reducible refine go2 ?_) | (with_reducible (show W _ _ _ _ _); with_reducible refine sg2 ?_ ?_ <;> intro _) | (with_reducible (show W _ _ _ _ _); with_reducible refine sc2 ?_ ?_ <;> intro _) | (with_reducible (show CallK _ _ _ _ _ _ _ _ _ _ _); with_reducible refine ce2 (at_ok okX _ _ hget_new lX) ?_) | (with_reducible (show CallK _ _ _ _ _ _ _ _ _ _ _); with_reducible refine ce2 (of_nil c s _ _ _) ?_) | (with_reducible (show W _ _ (.code (.region 15 _ true) :: _) _ _); with_reducible refine W_draw [(0, []), (1, []), (2, []), (3, []), (5, []), (6, []), (7, []), (8, []), (4, [0, 5]), (9, [0]), (10, []), (11, []), (12, []), (13, []), (14, []), (15, [])] [0, 5] (by kernel_rfl) ?_) | (with_reducible (show W _ _ (.code (.region 21 _ true) :: _) _ _); with_reducible refine W_draw [(0, []), (1, []), (2, []), (3, []), (5, []), (6, []), (7, []), (8, []), (4, [0, 5]), (9, [0]), (10, []), (11, []), (12, []), (13, []), (14, []), (15, [])] [0, 5] (by kernel_rfl) ?_) | (with_reducible (show W _ _ (.code (.region 24 _ true) :: _) _ _); with_reducible refine W_draw [(0, []), (1, []), (2, []), (3, []), (5, []), (6, []), (7, []), (8, []), (4, [0, 5]), (9, [0]), (10, []), (11, []), (12, []), (13, []), (14, []), (15, [])] [0, 5] (by kernel_rfl) ?_) | ((with_reducible (show CallK _ _ _ _ _ _ _ _ _ _ _); first | (with_reducible refine cm2 (set_ok okX _ _ _ hget_new lX) ?_) | (with_reducible refine cm2 (set_ok (okX.set _ _ _) _ _ _ hget_new ((setM_len _ _ _ _ _ _ _).trans lX)) ?_)))
  · exact ⟨j - 1, by omega, k + 1, by omega, by rw [wrap_suc (by assumption) (by omega)], rfl⟩
  have hkm : k = m.toNat := by omega
  subst hkm
  clear h13 hk okX lX
  generalize hX0 : rowsM m c s a m.toNat (madeM m xs 0 N) = X0 at hM1
  have okX0 : MatOk m m X0 := by rw [← hX0]; exact rows_ok okM c s a _
  refine W_for (fun j ρ H' => ∃ k : Nat, k + j = m.toNat ∧ ρ 0 = i64 m ∧ ρ 3 = i64 a ∧ ρ 6 = .ptr H.length 0 ∧ ρ 9 = .ptr (H.length + 2) 0 ∧ ρ 10 = .ptr (H.length + 4) 0 ∧ ρ 11 = .ptr (H.length + 6) 0 ∧ ρ 12 = .ptr (H.length + 8) 0 ∧ ρ 16 = i64 k ∧
    H' = H ++ [some ⟨[u64 c, u64 s], true⟩, some ⟨M1.map u64, true⟩, some ⟨[i64 m, i64 m, i64 m, .slice (H.length + 1) 0 N N 1], true⟩, some ⟨Z1.map u64, true⟩, some ⟨[i64 m, i64 m, i64 m, .slice (H.length + 3) 0 N N 1], true⟩,
      some ⟨(colsM m c s a k X0).map u64, true⟩, some ⟨[i64 m, i64 m, i64 m, .slice (H.length + 5) 0 N N 1], true⟩, some ⟨(colsM m c s a k (oneM m)).map u64, true⟩, some ⟨[i64 m, i64 m, i64 m, .slice (H.length + 7) 0 N N 1], true⟩]) m.toNat ?_ ?_
  · refine ⟨0, by omega, ?_⟩
    simp [put, colsM, iter, *]
  clear h0 h3 h6 h9 h10 h11 h12
  rintro j ρ H' ⟨k, hk, h0, h3, h6, h9, h10, h11, h12, h16, rfl⟩
  have okX := cols_ok okX0 c s a k
  have lX := okX.len.trans hN
  have okY := cols_ok okO c s a k
  have lY := okY.len.trans hN
  repeat' first | (with_reducible (show W _ _ _ _ _); with_reducible refine go2 ?_) | (with_reducible (show W _ _ _ _ _); with_reducible refine sg2 ?_ ?_ <;> intro _) | (with_reducible (show W _ _ _ _ _); with_reducible refine sc2 ?_ ?_ <;> intro _) | (with_reducible (show CallK _ _ _ _ _ _ _ _ _ _ _); with_reducible refine ce2 (at_ok okX _ _ hget_new lX) ?_) | (with_reducible (show CallK _ _ _ _ _ _ _ _ _ _ _); with_reducible refine ce2 (at_ok okY _ _ hget_new lY) ?_) | (with_reducible (show CallK _ _ _ _ _ _ _ _ _ _ _); with_reducible refine ce2 (of_nil c s _ _ _) ?_) | (with_reducible (show W _ _ (.code (.region 15 _ true) :: _) _ _); with_reducible refine W_draw [(0, []), (1, []), (2, []), (3, []), (5, []), (6, []), (7, []), (8, []), (4, [0, 5]), (9, [0]), (10, []), (11, []), (12, []), (13, []), (14, []), (15, [])] [0, 5] (by kernel_rfl) ?_) | (with_reducible (show W _ _ (.code (.region 21 _ true) :: _) _ _); with_reducible refine W_draw [(0, []), (1, []), (2, []), (3, []), (5, []), (6, []), (7, []), (8, []), (4, [0, 5]), (9, [0]), (10, []), (11, []), (12, []), (13, []), (14, []), (15, [])] [0, 5] (by kernel_rfl) ?_) | (with_reducible (show W _ _ (.code (.region 24 _ true) :: _) _ _); with_reducible refine W_draw [(0, []), (1, []), (2, []), (3, []), (5, []), (6, []), (7, []), (8, []), (4, [0, 5]), (9, [0]), (10, []), (11, []), (12, []), (13, []), (14, []), (15, [])] [0, 5] (by kernel_rfl) ?_) | ((with_reducible (show CallK _ _ _ _ _ _ _ _ _ _ _); first | (with_reducible refine cm2 (set_ok okX _ _ _ hget_new lX) ?_) | (with_reducible refine cm2 (set_ok (okX.set _ _ _) _ _ _ hget_new ((setM_len _ _ _ _ _ _ _).trans lX)) ?_) | (with_reducible refine cm2 (set_ok okY _ _ _ hget_new lY) ?_) | (with_reducible refine cm2 (set_ok (okY.set _ _ _) _ _ _ hget_new ((setM_len _ _ _ _ _ _ _).trans lY)) ?_)))
  · exact ⟨j - 1, by omega, k + 1, by omega, by rw [wrap_suc (by assumption) (by omega)], rfl⟩
  have hkm : k = m.toNat := by omega
  subst hkm
  rw [hM1, hZ1]
  repeat' first | (with_reducible (show W _ _ _ _ _); with_reducible refine go2 ?_) | (with_reducible (show W _ _ _ _ _); with_reducible refine sg2 ?_ ?_ <;> intro _) | (with_reducible (show W _ _ _ _ _); with_reducible refine sc2 ?_ ?_ <;> intro _) | (with_reducible (show CallK _ _ _ _ _ _ _ _ _ _ _); with_reducible refine ce2 (same_spec okM1 hget_new hget_new lM1) ?_) | (with_reducible (show CallK _ _ _ _ _ _ _ _ _ _ _); with_reducible refine ce2 (same_spec okZ1 hget_new hget_new lZ1) ?_) | (with_reducible (show W _ _ (.code (.region 15 _ true) :: _) _ _); with_reducible refine W_draw [(0, []), (1, []), (2, []), (3, []), (5, []), (6, []), (7, []), (8, []), (4, [0, 5]), (9, [0]), (10, []), (11, []), (12, []), (13, []), (14, []), (15, [])] [0, 5] (by kernel_rfl) ?_) | (with_reducible (show W _ _ (.code (.region 21 _ true) :: _) _ _); with_reducible refine W_draw [(0, []), (1, []), (2, []), (3, []), (5, []), (6, []), (7, []), (8, []), (4, [0, 5]), (9, [0]), (10, []), (11, []), (12, []), (13, []), (14, []), (15, [])] [0, 5] (by kernel_rfl) ?_) | (with_reducible (show W _ _ (.code (.region 24 _ true) :: _) _ _); with_reducible refine W_draw [(0, []), (1, []), (2, []), (3, []), (5, []), (6, []), (7, []), (8, []), (4, [0, 5]), (9, [0]), (10, []), (11, []), (12, []), (13, []), (14, []), (15, [])] [0, 5] (by kernel_rfl) ?_)
  all_goals trivial

theorem turns_out (n : Int) {v : MV} {xs : List Int} {H : MH} (hv : Sl H v xs) (c s a : Int) (ha : -9223372036854775808 ≤ a ∧ a < 9223372036854775808) (hin : ¬ (0 ≤ a ∧ a ≤ bits .and .i64 n 7 - 2)) : Spec Try.prog 4 [i64 n, v, .agg [u64 c, u64 s], i64 a] H fun v H' => v = bl true ∧ H' = H := by
  have hlen22 : lenV Try.prog 22 v = some (i64 (xs.length : Int)) := len_of_Sl hv (by rw [ty_22])
  have h7 := and7 n
  refine Spec.scalar (enterS Try.func4 [.tmp 8] ?_)
  repeat' first | (with_reducible (show W _ _ _ _ _); with_reducible refine go2 ?_) | (with_reducible (show W _ _ _ _ _); with_reducible refine sg2 ?_ ?_ <;> intro _) | (with_reducible (show W _ _ _ _ _); with_reducible refine sc2 ?_ ?_ <;> intro _) | (with_reducible (show CallK _ _ _ _ _ _ _ _ _ _ _); with_reducible refine ce2 (head19_spec _) ?_) | (with_reducible (show W _ _ (.code (.region 15 _ true) :: _) _ _); with_reducible refine W_draw [(0, []), (1, []), (2, []), (3, []), (5, []), (6, []), (7, []), (8, []), (4, [0, 5]), (9, [0]), (10, []), (11, []), (12, []), (13, []), (14, []), (15, [])] [0, 5] (by kernel_rfl) ?_) | (with_reducible (show W _ _ (.code (.region 21 _ true) :: _) _ _); with_reducible refine W_draw [(0, []), (1, []), (2, []), (3, []), (5, []), (6, []), (7, []), (8, []), (4, [0, 5]), (9, [0]), (10, []), (11, []), (12, []), (13, []), (14, []), (15, [])] [0, 5] (by kernel_rfl) ?_) | (with_reducible (show W _ _ (.code (.region 24 _ true) :: _) _ _); with_reducible refine W_draw [(0, []), (1, []), (2, []), (3, []), (5, []), (6, []), (7, []), (8, []), (4, [0, 5]), (9, [0]), (10, []), (11, []), (12, []), (13, []), (14, []), (15, [])] [0, 5] (by kernel_rfl) ?_)
  · trivial
  generalize hm : bits .and .i64 n 7 = m at hin h7
  have h40 : 0 ≤ m ∧ m ≤ 4096 := by omega
  generalize hN : (m * m).toNat = N
  have hw : IntKind.i64.wrap (m - 2) = m - 2 := wrap_i64 (by omega)
  have okM := made_ok h40 xs 0 N
  have lM := okM.len.trans hN
  have okO := oneM_ok h40
  have lO := okO.len.trans hN
  repeat' first | (with_reducible (show W _ _ _ _ _); with_reducible refine go2 ?_) | (with_reducible (show W _ _ _ _ _); with_reducible refine sg2 ?_ ?_ <;> intro _) | (with_reducible (show W _ _ _ _ _); with_reducible refine sc2 ?_ ?_ <;> intro _) | (with_reducible (show CallK _ _ _ _ _ _ _ _ _ _ _); with_reducible refine ce2 (same_spec okM hget_new hget_new lM) ?_) | (with_reducible (show CallK _ _ _ _ _ _ _ _ _ _ _); with_reducible refine ce2 (same_spec okO hget_new hget_new lO) ?_) | (with_reducible (show W _ _ (.code (.region 15 _ true) :: _) _ _); with_reducible refine W_draw [(0, []), (1, []), (2, []), (3, []), (5, []), (6, []), (7, []), (8, []), (4, [0, 5]), (9, [0]), (10, []), (11, []), (12, []), (13, []), (14, []), (15, [])] [0, 5] (by kernel_rfl) ?_) | (with_reducible (show W _ _ (.code (.region 21 _ true) :: _) _ _); with_reducible refine W_draw [(0, []), (1, []), (2, []), (3, []), (5, []), (6, []), (7, []), (8, []), (4, [0, 5]), (9, [0]), (10, []), (11, []), (12, []), (13, []), (14, []), (15, [])] [0, 5] (by kernel_rfl) ?_) | (with_reducible (show W _ _ (.code (.region 24 _ true) :: _) _ _); with_reducible refine W_draw [(0, []), (1, []), (2, []), (3, []), (5, []), (6, []), (7, []), (8, []), (4, [0, 5]), (9, [0]), (10, []), (11, []), (12, []), (13, []), (14, []), (15, [])] [0, 5] (by kernel_rfl) ?_) | ((with_reducible (show CallK _ _ _ _ _ _ _ _ _ _ _); first | (with_reducible refine cm2 (made_spec h40 (Sl.app hv _) 0 hN) ?_) | (with_reducible refine cm2 (one_spec h40 _) ?_) | (with_reducible refine cm2 (turn_out okM okO c s a ha hin hget_new hget_new (by omega) hN) ?_))) | ((exfalso; omega))
  all_goals first | trivial | (exfalso; omega)
theorem turns (n : Int) {v : MV} {xs : List Int} {H : MH} (hv : Sl H v xs) (c s a : Int) (ha : -9223372036854775808 ≤ a ∧ a < 9223372036854775808) : Spec Try.prog 4 [i64 n, v, .agg [u64 c, u64 s], i64 a] H fun v H' => v = bl true ∧ H' = H := by
  by_cases hin : 0 ≤ a ∧ a ≤ bits .and .i64 n 7 - 2
  · exact turns_in n hv c s a ha hin
  · exact turns_out n hv c s a ha hin
end Go.Proofs.Ythkafhjfaekaiaa.M
