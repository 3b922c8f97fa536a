/- The law HouseSteps, in the small machine. -/
import Derived.Test.YtojppdcbnpinbaaC22
import Derived.Test.YtojppdcbnpinbaaC24
set_option linter.unusedSimpArgs false
set_option linter.unusedVariables false
set_option maxRecDepth 10000
set_option maxHeartbeats 8000000
namespace Go.Proofs.Ytojppdcbnpinbaa.M
open Go Go.Proofs

theorem made13_spec {r c : Int} (hr : 0 ≤ r ∧ r ≤ 4096) (hc : 0 ≤ c ∧ c ≤ 4096) {v : MV} {xs : List Int} {H : MH} (hv : Sl H v xs) (hI : InD xs) {N : Nat} (hN : (r * c).toNat = N) :
    Spec Try.prog 8 [i64 r, i64 c, v] H fun u H' => ∃ D : List Int, (MatOk r c D ∧ InD D) ∧ u = mx r c c H.length N N ∧ H' = H ++ [some ⟨D.map u64, true⟩] := by
  have hlen22 := len22 hv
  have hia : ∀ j : Nat, j < xs.length → iaV (.slice 1 8 (some [.int .u64 0]) true) v (.lit (.int .i64 j)) = some (ixq v j) := fun j hj => hv.ia hj _ _ _ _
  have hld : ∀ (j : Nat) (L : MH), j < xs.length → loadV Try.prog 23 (ixq v j) (H ++ L) = some (u64 (xs.getD j 0)) := fun j L hj => (hv.app L).ld (by rw [ty_23]) (by rw [ty_23]) hj
  have hsq : 0 ≤ r * c ∧ r * c ≤ 4096 * 4096 := ⟨Int.mul_nonneg hr.1 hc.1, Int.mul_le_mul hr.2 hc.2 hc.1 (by omega)⟩
  refine Spec.oneE (T := List Int) (G := fun D => MatOk r c D ∧ InD D) (cs := fun D => D.map u64) (q := 1) (J := fun D => [some ⟨[i64 r, i64 c, i64 c, .slice (H.length + 1) 0 N N 1], true⟩, some ⟨D.map u64, true⟩, some ⟨[i64 r, i64 c, i64 c, .slice (H.length + 1) 0 N N 1], true⟩])
    (v := fun p => mx r c c p N N) (fun D => closed_u64 D) (fun p => by simp [Cl, Cls']) (fun π p _ => by simp [ren, rens]) (fun _ => rfl) ?_
  refine enterS Try.func8 [.cell 6 28] ?_
  repeat' first | (with_reducible (show W _ _ _ _ _); with_reducible refine go2 ?_) | (with_reducible (show W _ _ _ _ _); with_reducible refine sg2 ?_ ?_ <;> intro _) | (with_reducible (show W _ _ _ _ _); with_reducible refine sc2 ?_ ?_ <;> intro _) | (with_reducible (show W _ _ (.code (.region 6 _ true) :: _) _ _); with_reducible refine W_draw [(0, []), (1, []), (2, []), (3, []), (4, []), (5, []), (6, []), (7, []), (8, []), (9, []), (10, []), (11, [])] [] (by kernel_rfl) ?_) | ((with_reducible (show CallK _ _ _ _ _ _ _ _ _ _ _); with_reducible refine cm2 (new_spec r c hr hc _) ?_))
  refine W_for (fun j ρ H' => ∃ (k : Nat) (D : List Int), (MatOk r c D ∧ InD D) ∧ k + j = N ∧ ρ 2 = v ∧ ρ 6 = .ptr H.length 0 ∧ ρ 7 = .ptr (H.length + 2) 0 ∧ ρ 14 = i64 (N : Int) ∧ ρ 15 = i64 k ∧
    H' = H ++ [some ⟨[i64 0, i64 0, i64 0, .lit (.slice none 0 0)], true⟩, some ⟨D.map u64, true⟩, some ⟨[i64 r, i64 c, i64 c, .slice (H.length + 1) 0 N N 1], true⟩]) N ?_ ?_
  · refine ⟨0, List.replicate (r * c).toNat 0, ⟨MatOk.zero hr hc, InD.rep _⟩, by omega, ?_⟩
    simp [put, args0, hN]
  rintro j ρ H' ⟨k, D, ⟨ok, hD⟩, hk, h2, h6, h7, h14, h15, rfl⟩
  have hl := ok.len.trans hN
  have ht : ∀ a : Nat, (a : Int).tmod (xs.length : Int) = ((a % xs.length : Nat) : Int) := fun a => tmod_nat a _
  have hz : 0 < (xs.length : Int) → ((xs.length : Int) = 0) = False := fun h => eq_false (by omega)
  have hm : ∀ a : Nat, 0 < (xs.length : Int) → (a % xs.length < xs.length) = True := fun a h => eq_true (Nat.mod_lt a (by omega))
  have f3 : ∀ m : Nat, (0 ≤ (m : Int)) = True := fun m => eq_true (by omega)
  have f5 : ∀ m : Nat, (m : Int).toNat = m := fun m => Int.toNat_natCast m
  have f6 : ∀ m : Nat, m * 1 = m := Nat.mul_one
  have f8 : (k : Int) < N → (k + 1 ≤ (List.map u64 D).length) = True := fun h => eq_true (by rw [List.length_map, hl]; omega)
  repeat' first | (with_reducible (show W _ _ _ _ _); with_reducible refine go2 ?_) | (with_reducible (show W _ _ _ _ _); with_reducible refine sg2 ?_ ?_ <;> intro _) | (with_reducible (show W _ _ _ _ _); with_reducible refine sc2 ?_ ?_ <;> intro _) | (with_reducible (show W _ _ (.code (.region 6 _ true) :: _) _ _); with_reducible refine W_draw [(0, []), (1, []), (2, []), (3, []), (4, []), (5, []), (6, []), (7, []), (8, []), (9, []), (10, []), (11, [])] [] (by kernel_rfl) ?_)
  · refine ⟨j - 1, by omega, k + 1, D.set k (xs.getD (k % xs.length) 0), ⟨⟨ok.r0, ok.r1, ok.c0, ok.c1, by rw [List.length_set]; exact ok.len⟩, hD.set _ (getD_in hI _)⟩, by omega, by rw [wrap_suc (by assumption) (by omega)], ?_⟩
    rw [List.map_set]
  · exact ⟨j - 1, by omega, k + 1, D, ⟨ok, hD⟩, by omega, by rw [wrap_suc (by assumption) (by omega)], rfl⟩
  · exact ⟨D, ⟨ok, hD⟩, rfl⟩

theorem rows_true {l : Nat} {r m : Int} (hr : 0 ≤ r ∧ r ≤ 7) (hl : l ≤ 8) (h : rowsB l r m = true) : 0 ≤ m ∧ m ≤ 7 ∧ (l : Int) ≤ r ∧ m ≤ r - l := by
  simp only [rowsB, Bool.and_eq_true, decide_eq_true_eq] at h
  have h2 := h.2
  rw [wrap_i64 (by omega)] at h2
  omega
theorem rows_false {l : Nat} {r m : Int} (hr : 0 ≤ r ∧ r ≤ 7) (hl : l ≤ 8) (h : rowsB l r m = false) : m < 0 ∨ m > 7 ∨ r < m + l := by
  by_cases h0 : m < 0 ∨ m > 7 ∨ r < m + l
  · exact h0
  · exfalso
    have : rowsB l r m = true := by
      simp only [rowsB, Bool.and_eq_true, decide_eq_true_eq]
      rw [wrap_i64 (by omega)]
      omega
    rw [this] at h
    cases h

theorem steps {v x : MV} {V xs : List Int} {H : MH} (hv : Sl H v V) (hV : InD V) {tau : Int} (htau : InU tau) (rows cols : Int) (hx : Sl H x xs) (hI : InD xs) (m : Int) :
    Spec Try.prog 3 [.agg [v, u64 tau], i64 rows, i64 cols, x, i64 m] H fun u H' => u = bl true ∧ H' = H := by
  have hlv := len22 hv
  have hlx := len22 hx
  have h7r := and7 rows
  have h7c := and7 cols
  refine Spec.scalar (enterS Try.func3 [.tmp 10] ?_)
  repeat' first | (with_reducible (show W _ _ _ _ _); with_reducible refine go2 ?_) | (with_reducible (show W _ _ _ _ _); with_reducible refine sg2 ?_ ?_ <;> intro _) | (with_reducible (show W _ _ _ _ _); with_reducible refine sc2 ?_ ?_ <;> intro _) | (with_reducible (show CallK _ _ _ _ _ _ _ _ _ _ _); with_reducible refine ce2 (head13_spec _) ?_) | (with_reducible (show W _ _ (.code (.region 20 _ true) :: _) _ _); with_reducible refine W_draw [(0, []), (1, []), (2, []), (3, []), (4, []), (5, []), (6, []), (7, []), (8, []), (9, []), (10, []), (11, []), (12, []), (13, [4, 7]), (14, []), (15, []), (16, [])] [4, 7] (by kernel_rfl) ?_) | (with_reducible (show W _ _ (.code (.region 26 _ true) :: _) _ _); with_reducible refine W_draw [(0, []), (1, []), (2, []), (3, []), (4, []), (5, []), (6, []), (7, []), (8, []), (9, []), (10, []), (12, []), (13, []), (14, []), (15, []), (16, []), (17, []), (18, []), (11, [0, 14, 17]), (19, [0]), (20, [0]), (21, [])] [0, 14, 17] (by kernel_rfl) ?_) | (with_reducible (show W _ _ (.code (.region 28 _ true) :: _) _ _); with_reducible refine W_draw [(0, []), (1, []), (3, []), (8, []), (2, [0, 8]), (4, [8]), (5, []), (6, []), (7, []), (9, []), (10, [])] [0, 8] (by kernel_rfl) ?_) | (with_reducible (show W _ _ (.code (.region 29 _ true) :: _) _ _); with_reducible refine W_draw [(0, []), (1, []), (3, []), (4, []), (9, []), (2, [0, 9]), (5, [9]), (6, []), (7, []), (8, []), (10, []), (11, [])] [0, 9] (by kernel_rfl) ?_) | (with_reducible (show W _ _ (.code (.region 30 _ true) :: _) _ _); with_reducible refine W_draw [(0, []), (1, []), (2, []), (3, []), (4, []), (5, []), (6, []), (7, []), (8, []), (9, []), (10, []), (11, []), (12, []), (13, []), (14, []), (15, []), (16, []), (17, []), (18, []), (19, []), (20, []), (21, []), (22, []), (23, []), (24, []), (25, []), (26, []), (27, []), (29, []), (28, [29]), (30, []), (31, []), (32, [])] [29] (by kernel_rfl) ?_)
  · trivial
  rotate_left
  · trivial
  rename_i hl8 hl100
  generalize hrr : bits .and .i64 rows 7 = r at h7r
  generalize hcc : bits .and .i64 cols 7 = c at h7c
  have hr : 0 ≤ r ∧ r ≤ 4096 := by omega
  have hc : 0 ≤ c ∧ c ≤ 4096 := by omega
  generalize hN : (r * c).toNat = N
  (with_reducible (show CallK _ _ _ _ _ _ _ _ _ _ _)); with_reducible refine cx2 (made13_spec hr hc (Sl.app hx _) hI hN) ?_
  rintro u H' ⟨D, ⟨ok, hD⟩, rfl, rfl⟩
  have hl := ok.len.trans hN
  by_cases hrows : rowsB V.length r m = true
  · have hmm := rows_true h7r (by omega) hrows
    have hw1 : IntKind.i64.wrap (m + (V.length : Int)) = m + V.length := wrap_i64 (by omega)
    have c1 : ¬ m < 0 := by omega
    have c2 : ¬ 7 < m := by omega
    have c3 : ¬ r < m + (V.length : Int) := by omega
    have hLok := leftR_ok (V := V) (tau := tau) (m := m) (S := (D, 0)) ⟨ok, hD⟩
    repeat' first | (with_reducible (show W _ _ _ _ _); with_reducible refine go2 ?_) | (with_reducible (show W _ _ _ _ _); with_reducible refine sg2 ?_ ?_ <;> intro _) | (with_reducible (show CallK _ _ _ _ _ _ _ _ _ _ _); with_reducible refine ce2 (abs_spec _ _) ?_) | (with_reducible (show W _ _ (.code (.region 20 _ true) :: _) _ _); with_reducible refine W_draw [(0, []), (1, []), (2, []), (3, []), (4, []), (5, []), (6, []), (7, []), (8, []), (9, []), (10, []), (11, []), (12, []), (13, [4, 7]), (14, []), (15, []), (16, [])] [4, 7] (by kernel_rfl) ?_) | (with_reducible (show W _ _ (.code (.region 26 _ true) :: _) _ _); with_reducible refine W_draw [(0, []), (1, []), (2, []), (3, []), (4, []), (5, []), (6, []), (7, []), (8, []), (9, []), (10, []), (12, []), (13, []), (14, []), (15, []), (16, []), (17, []), (18, []), (11, [0, 14, 17]), (19, [0]), (20, [0]), (21, [])] [0, 14, 17] (by kernel_rfl) ?_) | (with_reducible (show W _ _ (.code (.region 28 _ true) :: _) _ _); with_reducible refine W_draw [(0, []), (1, []), (3, []), (8, []), (2, [0, 8]), (4, [8]), (5, []), (6, []), (7, []), (9, []), (10, [])] [0, 8] (by kernel_rfl) ?_) | (with_reducible (show W _ _ (.code (.region 29 _ true) :: _) _ _); with_reducible refine W_draw [(0, []), (1, []), (3, []), (4, []), (9, []), (2, [0, 9]), (5, [9]), (6, []), (7, []), (8, []), (10, []), (11, [])] [0, 9] (by kernel_rfl) ?_) | (with_reducible (show W _ _ (.code (.region 30 _ true) :: _) _ _); with_reducible refine W_draw [(0, []), (1, []), (2, []), (3, []), (4, []), (5, []), (6, []), (7, []), (8, []), (9, []), (10, []), (11, []), (12, []), (13, []), (14, []), (15, []), (16, []), (17, []), (18, []), (19, []), (20, []), (21, []), (22, []), (23, []), (24, []), (25, []), (26, []), (27, []), (29, []), (28, [29]), (30, []), (31, []), (32, [])] [29] (by kernel_rfl) ?_) | ((with_reducible (show CallK _ _ _ _ _ _ _ _ _ _ _); first | (with_reducible refine cm2 (left_p ok hD hl hget_new (Sl.app hv _) hV tau m hrows hget_new) ?_) | (with_reducible refine cm2 (clone_spec ok hl hget_new) ?_)))
    generalize hR : leftR r c V tau m (D, 0) = R at hLok
    have hL1 : MatOk r c R.1 := hLok.1
    have hLl := hL1.len.trans hN
    refine W_cut (fun ρ H' => ρ 4 = i64 m ∧ ρ 5 = .ptr H.length 0 ∧ ρ 11 = .ptr (H.length + 2) 0 ∧ ρ 12 = .ptr (H.length + 3) 0 ∧ ρ 13 = .ptr (H.length + 4) 0 ∧ ρ 14 = .ptr (H.length + 6) 0 ∧ ρ 15 = i64 0 ∧ ρ 16 = .ptr (H.length + 8) 0 ∧
      H' = H ++ [some ⟨[v, u64 tau], true⟩, some ⟨D.map u64, true⟩, some ⟨[i64 r, i64 c, i64 c, .slice (H.length + 1) 0 N N 1], true⟩, some ⟨[u8 R.2], true⟩, some ⟨[u8 R.2], true⟩, some ⟨R.1.map u64, true⟩, some ⟨[i64 r, i64 c, i64 c, .slice (H.length + 5) 0 N N 1], true⟩,
        some ⟨R.1.map u64, true⟩, some ⟨[i64 r, i64 c, i64 c, .slice (H.length + 7) 0 N N 1], true⟩]) ?_ ?_
    · repeat' first | (with_reducible (show W _ _ _ _ _); with_reducible refine go2 ?_) | (with_reducible (show W _ _ _ _ _); with_reducible refine sg2 ?_ ?_ <;> intro _) | (with_reducible (show W _ _ _ _ _); with_reducible refine sc2 ?_ ?_ <;> intro _) | (with_reducible (show W _ _ (.code (.region 20 _ true) :: _) _ _); with_reducible refine W_draw [(0, []), (1, []), (2, []), (3, []), (4, []), (5, []), (6, []), (7, []), (8, []), (9, []), (10, []), (11, []), (12, []), (13, [4, 7]), (14, []), (15, []), (16, [])] [4, 7] (by kernel_rfl) ?_) | (with_reducible (show W _ _ (.code (.region 26 _ true) :: _) _ _); with_reducible refine W_draw [(0, []), (1, []), (2, []), (3, []), (4, []), (5, []), (6, []), (7, []), (8, []), (9, []), (10, []), (12, []), (13, []), (14, []), (15, []), (16, []), (17, []), (18, []), (11, [0, 14, 17]), (19, [0]), (20, [0]), (21, [])] [0, 14, 17] (by kernel_rfl) ?_) | (with_reducible (show W _ _ (.code (.region 28 _ true) :: _) _ _); with_reducible refine W_draw [(0, []), (1, []), (3, []), (8, []), (2, [0, 8]), (4, [8]), (5, []), (6, []), (7, []), (9, []), (10, [])] [0, 8] (by kernel_rfl) ?_) | (with_reducible (show W _ _ (.code (.region 29 _ true) :: _) _ _); with_reducible refine W_draw [(0, []), (1, []), (3, []), (4, []), (9, []), (2, [0, 9]), (5, [9]), (6, []), (7, []), (8, []), (10, []), (11, [])] [0, 9] (by kernel_rfl) ?_) | (with_reducible (show W _ _ (.code (.region 30 _ true) :: _) _ _); with_reducible refine W_draw [(0, []), (1, []), (2, []), (3, []), (4, []), (5, []), (6, []), (7, []), (8, []), (9, []), (10, []), (11, []), (12, []), (13, []), (14, []), (15, []), (16, []), (17, []), (18, []), (19, []), (20, []), (21, []), (22, []), (23, []), (24, []), (25, []), (26, []), (27, []), (29, []), (28, [29]), (30, []), (31, []), (32, [])] [29] (by kernel_rfl) ?_)
      · rename_i hne
        have hk1 : kindM tau ≠ 1 := fun hk => hne ((kind_zero htau).1 hk)
        refine W_for (fun j ρ H' => ∃ k : Nat, k + j = c.toNat ∧ ρ 4 = i64 m ∧ ρ 5 = .ptr H.length 0 ∧ ρ 11 = .ptr (H.length + 2) 0 ∧ ρ 12 = .ptr (H.length + 3) 0 ∧ ρ 13 = .ptr (H.length + 4) 0 ∧ ρ 14 = .ptr (H.length + 6) 0 ∧ ρ 15 = i64 0 ∧ ρ 16 = .ptr (H.length + 8) 0 ∧ ρ 17 = i64 k ∧
          H' = H ++ [some ⟨[v, u64 tau], true⟩, some ⟨D.map u64, true⟩, some ⟨[i64 r, i64 c, i64 c, .slice (H.length + 1) 0 N N 1], true⟩, some ⟨[u8 R.2], true⟩, some ⟨[u8 (wantL r c V tau m D k (D, 0)).2], true⟩, some ⟨R.1.map u64, true⟩, some ⟨[i64 r, i64 c, i64 c, .slice (H.length + 5) 0 N N 1], true⟩,
            some ⟨(wantL r c V tau m D k (D, 0)).1.map u64, true⟩, some ⟨[i64 r, i64 c, i64 c, .slice (H.length + 7) 0 N N 1], true⟩]) c.toNat ?_ ?_
        · refine ⟨0, by omega, ?_⟩
          simp [put, args0, wantL, iter]
        rintro j ρ H' ⟨k, hk, h4, h5, h11, h12, h13, h14, h15, h16, h17, rfl⟩
        have hwok : ∀ n, MatOk r c (wantL r c V tau m D n (D, 0)).1 := by
          intro n
          induction n with
          | zero => exact ok
          | succ n ih =>
            have : ∀ (t : Int) (S : List Int × Int) (q : Nat), MatOk r c S.1 → MatOk r c (putW r c V m D n t S q).1 := by
              intro t S q hS
              induction q with
              | zero => exact hS
              | succ q ih => exact ih.set _ _ _
            exact this _ _ _ ih
        have hS1 := hwok k
        have hwsucc : wantL r c V tau m D (k + 1) (D, 0) = colW r c V tau m D k (wantL r c V tau m D k (D, 0)) := rfl
        generalize hSe : wantL r c V tau m D k (D, 0) = S at hS1 hwsucc
        have hSl := hS1.len.trans hN
        repeat' first | (with_reducible (show W _ _ _ _ _); with_reducible refine go2 ?_) | (with_reducible (show W _ _ _ _ _); with_reducible refine sg2 ?_ ?_ <;> intro _) | (with_reducible (show W _ _ _ _ _); with_reducible refine sc2 ?_ ?_ <;> intro _) | (with_reducible (show W _ _ (.code (.region 20 _ true) :: _) _ _); with_reducible refine W_draw [(0, []), (1, []), (2, []), (3, []), (4, []), (5, []), (6, []), (7, []), (8, []), (9, []), (10, []), (11, []), (12, []), (13, [4, 7]), (14, []), (15, []), (16, [])] [4, 7] (by kernel_rfl) ?_) | (with_reducible (show W _ _ (.code (.region 26 _ true) :: _) _ _); with_reducible refine W_draw [(0, []), (1, []), (2, []), (3, []), (4, []), (5, []), (6, []), (7, []), (8, []), (9, []), (10, []), (12, []), (13, []), (14, []), (15, []), (16, []), (17, []), (18, []), (11, [0, 14, 17]), (19, [0]), (20, [0]), (21, [])] [0, 14, 17] (by kernel_rfl) ?_) | (with_reducible (show W _ _ (.code (.region 28 _ true) :: _) _ _); with_reducible refine W_draw [(0, []), (1, []), (3, []), (8, []), (2, [0, 8]), (4, [8]), (5, []), (6, []), (7, []), (9, []), (10, [])] [0, 8] (by kernel_rfl) ?_) | (with_reducible (show W _ _ (.code (.region 29 _ true) :: _) _ _); with_reducible refine W_draw [(0, []), (1, []), (3, []), (4, []), (9, []), (2, [0, 9]), (5, [9]), (6, []), (7, []), (8, []), (10, []), (11, [])] [0, 9] (by kernel_rfl) ?_) | (with_reducible (show W _ _ (.code (.region 30 _ true) :: _) _ _); with_reducible refine W_draw [(0, []), (1, []), (2, []), (3, []), (4, []), (5, []), (6, []), (7, []), (8, []), (9, []), (10, []), (11, []), (12, []), (13, []), (14, []), (15, []), (16, []), (17, []), (18, []), (19, []), (20, []), (21, []), (22, []), (23, []), (24, []), (25, []), (26, []), (27, []), (29, []), (28, [29]), (30, []), (31, []), (32, [])] [29] (by kernel_rfl) ?_)
        · rename_i hkc
          refine W_for (fun j ρ H' => ∃ i : Nat, i + j = V.length ∧ ρ 4 = i64 m ∧ ρ 5 = .ptr H.length 0 ∧ ρ 11 = .ptr (H.length + 2) 0 ∧ ρ 12 = .ptr (H.length + 3) 0 ∧ ρ 13 = .ptr (H.length + 4) 0 ∧ ρ 14 = .ptr (H.length + 6) 0 ∧ ρ 15 = i64 0 ∧ ρ 16 = .ptr (H.length + 8) 0 ∧ ρ 17 = i64 k ∧ ρ 18 = u64 (sumS V (fun i => atM r c c D (m + i) k) S.2 i).1 ∧ ρ 86 = i64 (V.length : Int) ∧ ρ 87 = i64 i ∧
            H' = H ++ [some ⟨[v, u64 tau], true⟩, some ⟨D.map u64, true⟩, some ⟨[i64 r, i64 c, i64 c, .slice (H.length + 1) 0 N N 1], true⟩, some ⟨[u8 R.2], true⟩, some ⟨[u8 (sumS V (fun i => atM r c c D (m + i) k) S.2 i).2], true⟩, some ⟨R.1.map u64, true⟩, some ⟨[i64 r, i64 c, i64 c, .slice (H.length + 5) 0 N N 1], true⟩,
              some ⟨S.1.map u64, true⟩, some ⟨[i64 r, i64 c, i64 c, .slice (H.length + 7) 0 N N 1], true⟩]) V.length ?_ ?_
          · refine ⟨0, by omega, ?_⟩
            rw [sumS_zero]
            simp [put, *]
          clear h4 h5 h11 h12 h13 h14 h15 h16 h17
          rintro j' ρ' H' ⟨i, hi, h4, h5, h11, h12, h13, h14, h15, h16, h17, h18, h86, h87, rfl⟩
          have hsi := sumS_in V (fun i => atM r c c D (m + i) k) S.2 i
          have hsu := sumS_succ V (fun i => atM r c c D (m + i) k) S.2 i
          have hmi : (i : Int) < V.length → IntKind.i64.wrap (m + i) = m + i := fun h => wrap_i64 (by omega)
          have hia2 : (i : Int) < V.length → iaV (.slice 1 8 (some [.int .u64 0]) true) v (.lit (.int .i64 i)) = some (ixq v i) := fun h => hv.ia (by omega) _ _ _ _
          have hld2 : ∀ (L : MH), (i : Int) < V.length → loadV Try.prog 23 (ixq v i) (H ++ L) = some (u64 (V.getD i 0)) := fun L h => (hv.app L).ld (by rw [ty_23]) (by rw [ty_23]) (by omega)
          repeat' first | (with_reducible (show W _ _ _ _ _); with_reducible refine go2 ?_) | (with_reducible (show W _ _ _ _ _); with_reducible refine sg2 ?_ ?_ <;> intro _) | (with_reducible (show W _ _ _ _ _); with_reducible refine sc2 ?_ ?_ <;> intro _) | (with_reducible (show CallK _ _ _ _ _ _ _ _ _ _ _); with_reducible refine ce2 (at_ok ok _ _ (hget_newL rfl) hl) ?_) | (with_reducible (show W _ _ (.code (.region 20 _ true) :: _) _ _); with_reducible refine W_draw [(0, []), (1, []), (2, []), (3, []), (4, []), (5, []), (6, []), (7, []), (8, []), (9, []), (10, []), (11, []), (12, []), (13, [4, 7]), (14, []), (15, []), (16, [])] [4, 7] (by kernel_rfl) ?_) | (with_reducible (show W _ _ (.code (.region 26 _ true) :: _) _ _); with_reducible refine W_draw [(0, []), (1, []), (2, []), (3, []), (4, []), (5, []), (6, []), (7, []), (8, []), (9, []), (10, []), (12, []), (13, []), (14, []), (15, []), (16, []), (17, []), (18, []), (11, [0, 14, 17]), (19, [0]), (20, [0]), (21, [])] [0, 14, 17] (by kernel_rfl) ?_) | (with_reducible (show W _ _ (.code (.region 28 _ true) :: _) _ _); with_reducible refine W_draw [(0, []), (1, []), (3, []), (8, []), (2, [0, 8]), (4, [8]), (5, []), (6, []), (7, []), (9, []), (10, [])] [0, 8] (by kernel_rfl) ?_) | (with_reducible (show W _ _ (.code (.region 29 _ true) :: _) _ _); with_reducible refine W_draw [(0, []), (1, []), (3, []), (4, []), (9, []), (2, [0, 9]), (5, [9]), (6, []), (7, []), (8, []), (10, []), (11, [])] [0, 9] (by kernel_rfl) ?_) | (with_reducible (show W _ _ (.code (.region 30 _ true) :: _) _ _); with_reducible refine W_draw [(0, []), (1, []), (2, []), (3, []), (4, []), (5, []), (6, []), (7, []), (8, []), (9, []), (10, []), (11, []), (12, []), (13, []), (14, []), (15, []), (16, []), (17, []), (18, []), (19, []), (20, []), (21, []), (22, []), (23, []), (24, []), (25, []), (26, []), (27, []), (29, []), (28, [29]), (30, []), (31, []), (32, [])] [29] (by kernel_rfl) ?_) | ((with_reducible (show CallK _ _ _ _ _ _ _ _ _ _ _); first | (with_reducible refine cm2 (cmul_spec _ _ _ hget_new) ?_) | (with_reducible refine cm2 (cadd_spec hsi (mulM_in _ _) _ hget_new) ?_)))
          · exact ⟨j' - 1, by omega, i + 1, by omega, rfl, by rw [wrap_suc (n := (V.length : Int)) (by assumption) (by omega)], rfl⟩
          have hiv : i = V.length := by omega
          subst hiv
          clear h86 h87 hi hmi hia2 hld2 hsu
          refine W_for (fun j ρ H' => ∃ i : Nat, i + j = V.length ∧ ρ 4 = i64 m ∧ ρ 5 = .ptr H.length 0 ∧ ρ 11 = .ptr (H.length + 2) 0 ∧ ρ 12 = .ptr (H.length + 3) 0 ∧ ρ 13 = .ptr (H.length + 4) 0 ∧ ρ 14 = .ptr (H.length + 6) 0 ∧ ρ 15 = i64 0 ∧ ρ 16 = .ptr (H.length + 8) 0 ∧ ρ 17 = i64 k ∧ ρ 18 = u64 (mulM tau (sumS V (fun i => atM r c c D (m + i) k) S.2 V.length).1).1 ∧ ρ 114 = i64 (V.length : Int) ∧ ρ 115 = i64 i ∧
            H' = H ++ [some ⟨[v, u64 tau], true⟩, some ⟨D.map u64, true⟩, some ⟨[i64 r, i64 c, i64 c, .slice (H.length + 1) 0 N N 1], true⟩, some ⟨[u8 R.2], true⟩, some ⟨[u8 (putW r c V m D k (mulM tau (sumS V (fun i => atM r c c D (m + i) k) S.2 V.length).1).1 (S.1, bits .or .u8 (sumS V (fun i => atM r c c D (m + i) k) S.2 V.length).2 (mulM tau (sumS V (fun i => atM r c c D (m + i) k) S.2 V.length).1).2) i).2], true⟩, some ⟨R.1.map u64, true⟩, some ⟨[i64 r, i64 c, i64 c, .slice (H.length + 5) 0 N N 1], true⟩,
              some ⟨(putW r c V m D k (mulM tau (sumS V (fun i => atM r c c D (m + i) k) S.2 V.length).1).1 (S.1, bits .or .u8 (sumS V (fun i => atM r c c D (m + i) k) S.2 V.length).2 (mulM tau (sumS V (fun i => atM r c c D (m + i) k) S.2 V.length).1).2) i).1.map u64, true⟩, some ⟨[i64 r, i64 c, i64 c, .slice (H.length + 7) 0 N N 1], true⟩]) V.length ?_ ?_
          · refine ⟨0, by omega, ?_⟩
            have hpe : ∀ (S' : List Int × Int) (t : Int), putW r c V m D k t S' 0 = S' := fun _ _ => rfl
            simp [put, hpe, *]
          clear h4 h5 h11 h12 h13 h14 h15 h16 h17 h18
          rintro j'' ρ'' H' ⟨i, hi, h4, h5, h11, h12, h13, h14, h15, h16, h17, h18, h114, h115, rfl⟩
          have hTk : ∀ q, MatOk r c (putW r c V m D k (mulM tau (sumS V (fun i => atM r c c D (m + i) k) S.2 V.length).1).1 (S.1, bits .or .u8 (sumS V (fun i => atM r c c D (m + i) k) S.2 V.length).2 (mulM tau (sumS V (fun i => atM r c c D (m + i) k) S.2 V.length).1).2) q).1 := by
            intro q
            induction q with
            | zero => exact hS1
            | succ q ih => exact ih.set _ _ _
          have hT1 := hTk i
          have hcol : i = V.length → putW r c V m D k (mulM tau (sumS V (fun i => atM r c c D (m + i) k) S.2 V.length).1).1 (S.1, bits .or .u8 (sumS V (fun i => atM r c c D (m + i) k) S.2 V.length).2 (mulM tau (sumS V (fun i => atM r c c D (m + i) k) S.2 V.length).1).2) i = wantL r c V tau m D (k + 1) (D, 0) := by
            rintro rfl
            rw [hwsucc]; rfl
          have hstep := putW_succ r c V m D k (mulM tau (sumS V (fun i => atM r c c D (m + i) k) S.2 V.length).1).1 (S.1, bits .or .u8 (sumS V (fun i => atM r c c D (m + i) k) S.2 V.length).2 (mulM tau (sumS V (fun i => atM r c c D (m + i) k) S.2 V.length).1).2) i
          generalize putW r c V m D k (mulM tau (sumS V (fun i => atM r c c D (m + i) k) S.2 V.length).1).1 (S.1, bits .or .u8 (sumS V (fun i => atM r c c D (m + i) k) S.2 V.length).2 (mulM tau (sumS V (fun i => atM r c c D (m + i) k) S.2 V.length).1).2) i = T at hT1 hcol hstep
          have hTl := hT1.len.trans hN
          have hat := fun i k => atM_in hD r c c i k
          have hmi : (i : Int) < V.length → IntKind.i64.wrap (m + i) = m + i := fun h => wrap_i64 (by omega)
          have hia2 : (i : Int) < V.length → iaV (.slice 1 8 (some [.int .u64 0]) true) v (.lit (.int .i64 i)) = some (ixq v i) := fun h => hv.ia (by omega) _ _ _ _
          have hld2 : ∀ (L : MH), (i : Int) < V.length → loadV Try.prog 23 (ixq v i) (H ++ L) = some (u64 (V.getD i 0)) := fun L h => (hv.app L).ld (by rw [ty_23]) (by rw [ty_23]) (by omega)
          repeat' first | (with_reducible (show W _ _ _ _ _); with_reducible refine go2 ?_) | (with_reducible (show W _ _ _ _ _); with_reducible refine sg2 ?_ ?_ <;> intro _) | (with_reducible (show W _ _ _ _ _); with_reducible refine sc2 ?_ ?_ <;> intro _) | (with_reducible (show CallK _ _ _ _ _ _ _ _ _ _ _); with_reducible refine ce2 (at_ok ok _ _ (hget_newL rfl) hl) ?_) | (with_reducible (show W _ _ (.code (.region 20 _ true) :: _) _ _); with_reducible refine W_draw [(0, []), (1, []), (2, []), (3, []), (4, []), (5, []), (6, []), (7, []), (8, []), (9, []), (10, []), (11, []), (12, []), (13, [4, 7]), (14, []), (15, []), (16, [])] [4, 7] (by kernel_rfl) ?_) | (with_reducible (show W _ _ (.code (.region 26 _ true) :: _) _ _); with_reducible refine W_draw [(0, []), (1, []), (2, []), (3, []), (4, []), (5, []), (6, []), (7, []), (8, []), (9, []), (10, []), (12, []), (13, []), (14, []), (15, []), (16, []), (17, []), (18, []), (11, [0, 14, 17]), (19, [0]), (20, [0]), (21, [])] [0, 14, 17] (by kernel_rfl) ?_) | (with_reducible (show W _ _ (.code (.region 28 _ true) :: _) _ _); with_reducible refine W_draw [(0, []), (1, []), (3, []), (8, []), (2, [0, 8]), (4, [8]), (5, []), (6, []), (7, []), (9, []), (10, [])] [0, 8] (by kernel_rfl) ?_) | (with_reducible (show W _ _ (.code (.region 29 _ true) :: _) _ _); with_reducible refine W_draw [(0, []), (1, []), (3, []), (4, []), (9, []), (2, [0, 9]), (5, [9]), (6, []), (7, []), (8, []), (10, []), (11, [])] [0, 9] (by kernel_rfl) ?_) | (with_reducible (show W _ _ (.code (.region 30 _ true) :: _) _ _); with_reducible refine W_draw [(0, []), (1, []), (2, []), (3, []), (4, []), (5, []), (6, []), (7, []), (8, []), (9, []), (10, []), (11, []), (12, []), (13, []), (14, []), (15, []), (16, []), (17, []), (18, []), (19, []), (20, []), (21, []), (22, []), (23, []), (24, []), (25, []), (26, []), (27, []), (29, []), (28, [29]), (30, []), (31, []), (32, [])] [29] (by kernel_rfl) ?_) | ((with_reducible (show CallK _ _ _ _ _ _ _ _ _ _ _); first | (with_reducible refine cm2 (cmul_spec _ _ _ hget_new) ?_) | (with_reducible refine cm2 (csub_spec (hat _ _) _ _ hget_new) ?_) | (with_reducible refine cm2 (set_ok hT1 _ _ _ (hget_newL rfl) hTl) ?_)))
          · refine ⟨j'' - 1, by omega, i + 1, by omega, by rw [wrap_suc (n := (V.length : Int)) (by assumption) (by omega)], ?_⟩
            rw [hstep]
          · have e := hcol (by omega)
            subst e
            exact ⟨j - 1, by omega, k + 1, by omega, by rw [wrap_suc (by assumption) (by omega)], rfl⟩
        · have : k = c.toNat := by omega
          subst this
          have hRe : R = wantL r c V tau m D c.toNat (D, 0) := by
            rw [← hR, ← left_want ⟨hmm.1, hmm.2.2.1, hmm.2.2.2⟩ ok]
            unfold leftR
            rw [if_neg hk1]
          rw [hRe, hSe]
      · rename_i hz
        have hk1 : kindM tau = 1 := (kind_zero htau).2 (by simpa using hz)
        have hRe : R = (D, 0) := by
          rw [← hR]
          unfold leftR
          rw [if_pos hk1]
        rw [hRe]
    · rintro ρ H' ⟨h4, h5, h11, h12, h13, h14, h15, h16, rfl⟩
      have c4 : IntKind.i64.wrap (m + 8) = m + 8 := wrap_i64 (by omega)
      have hbad : rowsB V.length r (m + 8) = false := by
        cases hb : rowsB V.length r (m + 8) with
        | false => rfl
        | true => have := rows_true h7r (by omega) hb; omega
      obtain ⟨m8, hm8⟩ : ∃ y, y = m + 8 := ⟨_, rfl⟩
      have c5 : IntKind.i64.wrap (m + 8) = m8 := c4.trans hm8.symm
      rw [← hm8] at hbad
      clear c4 hm8
      have hto := mturn_ok ok
      have htl : (mturnM r c D).length = N := by rw [hto.len, Int.mul_comm]; exact hN
      have hs : (rightR c r V tau m (mturnM r c D, 0)).1 = mturnM r c R.1 := by
        unfold rightR
        dsimp only
        rw [mturn2 ok, hR]
      have hso := mturn_ok hL1
      have hsl : (mturnM r c R.1).length = N := by rw [hso.len, Int.mul_comm]; exact hN
      have hright : ∀ (H0 : MH) (p z : Nat), hget H0 p = some ⟨(mturnM r c D).map u64, true⟩ → Sl H0 v V → Spec Try.prog 17 [.agg [v, u64 tau], nilp, mx c r r p N z, i64 m] H0 fun u H' => u = .tup [mx c r r H0.length N N, i64 0] ∧ H' = H0 ++ [some ⟨(mturnM r c R.1).map u64, true⟩] := fun H0 p z hp hv0 => by
        have := right_n hto (mturn_in hD) htl (z := z) hp hv0 hV tau m hrows 0
        rw [hs] at this
        exact this
      have hturn : ∀ (H0 : MH) (p z : Nat), hget H0 p = some ⟨(mturnM r c R.1).map u64, true⟩ → Spec Try.prog 18 [mx c r r p N z] H0 fun u H' => u = mx r c c H0.length N N ∧ H' = H0 ++ [some ⟨R.1.map u64, true⟩] := fun H0 p z hp => by
        have := mturn_spec hso hsl (z := z) hp
        rw [mturn2 hL1] at this
        exact this
      repeat' first | (with_reducible (show W _ _ _ _ _); with_reducible refine go2 ?_) | (with_reducible (show W _ _ _ _ _); with_reducible refine sg2 ?_ ?_ <;> intro _) | (with_reducible (show W _ _ _ _ _); with_reducible refine sc2 ?_ ?_ <;> intro _) | (with_reducible (show W _ _ (.code (.region 20 _ true) :: _) _ _); with_reducible refine W_draw [(0, []), (1, []), (2, []), (3, []), (4, []), (5, []), (6, []), (7, []), (8, []), (9, []), (10, []), (11, []), (12, []), (13, [4, 7]), (14, []), (15, []), (16, [])] [4, 7] (by kernel_rfl) ?_) | (with_reducible (show W _ _ (.code (.region 26 _ true) :: _) _ _); with_reducible refine W_draw [(0, []), (1, []), (2, []), (3, []), (4, []), (5, []), (6, []), (7, []), (8, []), (9, []), (10, []), (12, []), (13, []), (14, []), (15, []), (16, []), (17, []), (18, []), (11, [0, 14, 17]), (19, [0]), (20, [0]), (21, [])] [0, 14, 17] (by kernel_rfl) ?_) | (with_reducible (show W _ _ (.code (.region 28 _ true) :: _) _ _); with_reducible refine W_draw [(0, []), (1, []), (3, []), (8, []), (2, [0, 8]), (4, [8]), (5, []), (6, []), (7, []), (9, []), (10, [])] [0, 8] (by kernel_rfl) ?_) | (with_reducible (show W _ _ (.code (.region 29 _ true) :: _) _ _); with_reducible refine W_draw [(0, []), (1, []), (3, []), (4, []), (9, []), (2, [0, 9]), (5, [9]), (6, []), (7, []), (8, []), (10, []), (11, [])] [0, 9] (by kernel_rfl) ?_) | (with_reducible (show W _ _ (.code (.region 30 _ true) :: _) _ _); with_reducible refine W_draw [(0, []), (1, []), (2, []), (3, []), (4, []), (5, []), (6, []), (7, []), (8, []), (9, []), (10, []), (11, []), (12, []), (13, []), (14, []), (15, []), (16, []), (17, []), (18, []), (19, []), (20, []), (21, []), (22, []), (23, []), (24, []), (25, []), (26, []), (27, []), (29, []), (28, [29]), (30, []), (31, []), (32, [])] [29] (by kernel_rfl) ?_) | ((with_reducible (show CallK _ _ _ _ _ _ _ _ _ _ _); with_reducible refine cm2 (mturn_spec ok hl hget_new) ?_))
      with_reducible refine cm2 (hright _ _ _ hget_new (Sl.app hv _)) ?_
      repeat' first | (with_reducible (show W _ _ _ _ _); with_reducible refine go2 ?_) | (with_reducible (show W _ _ _ _ _); with_reducible refine sg2 ?_ ?_ <;> intro _) | (with_reducible (show W _ _ _ _ _); with_reducible refine sc2 ?_ ?_ <;> intro _) | (with_reducible (show W _ _ (.code (.region 20 _ true) :: _) _ _); with_reducible refine W_draw [(0, []), (1, []), (2, []), (3, []), (4, []), (5, []), (6, []), (7, []), (8, []), (9, []), (10, []), (11, []), (12, []), (13, [4, 7]), (14, []), (15, []), (16, [])] [4, 7] (by kernel_rfl) ?_) | (with_reducible (show W _ _ (.code (.region 26 _ true) :: _) _ _); with_reducible refine W_draw [(0, []), (1, []), (2, []), (3, []), (4, []), (5, []), (6, []), (7, []), (8, []), (9, []), (10, []), (12, []), (13, []), (14, []), (15, []), (16, []), (17, []), (18, []), (11, [0, 14, 17]), (19, [0]), (20, [0]), (21, [])] [0, 14, 17] (by kernel_rfl) ?_) | (with_reducible (show W _ _ (.code (.region 28 _ true) :: _) _ _); with_reducible refine W_draw [(0, []), (1, []), (3, []), (8, []), (2, [0, 8]), (4, [8]), (5, []), (6, []), (7, []), (9, []), (10, [])] [0, 8] (by kernel_rfl) ?_) | (with_reducible (show W _ _ (.code (.region 29 _ true) :: _) _ _); with_reducible refine W_draw [(0, []), (1, []), (3, []), (4, []), (9, []), (2, [0, 9]), (5, [9]), (6, []), (7, []), (8, []), (10, []), (11, [])] [0, 9] (by kernel_rfl) ?_) | (with_reducible (show W _ _ (.code (.region 30 _ true) :: _) _ _); with_reducible refine W_draw [(0, []), (1, []), (2, []), (3, []), (4, []), (5, []), (6, []), (7, []), (8, []), (9, []), (10, []), (11, []), (12, []), (13, []), (14, []), (15, []), (16, []), (17, []), (18, []), (19, []), (20, []), (21, []), (22, []), (23, []), (24, []), (25, []), (26, []), (27, []), (29, []), (28, [29]), (30, []), (31, []), (32, [])] [29] (by kernel_rfl) ?_) | ((with_reducible (show CallK _ _ _ _ _ _ _ _ _ _ _); with_reducible refine cm2 (mturn_spec ok hl hget_new) ?_))
      with_reducible refine cm2 (right_bad hto htl _ (Sl.app hv _) tau _ hbad) ?_
      clear hright
      repeat' first | (with_reducible (show W _ _ _ _ _); with_reducible refine go2 ?_) | (with_reducible (show W _ _ _ _ _); with_reducible refine sg2 ?_ ?_ <;> intro _) | (with_reducible (show W _ _ _ _ _); with_reducible refine sc2 ?_ ?_ <;> intro _) | (with_reducible (show CallK _ _ _ _ _ _ _ _ _ _ _); with_reducible refine ce2 (same_spec hL1 (hget_newL rfl) (hget_newL rfl) hLl) ?_) | (with_reducible (show W _ _ (.code (.region 20 _ true) :: _) _ _); with_reducible refine W_draw [(0, []), (1, []), (2, []), (3, []), (4, []), (5, []), (6, []), (7, []), (8, []), (9, []), (10, []), (11, []), (12, []), (13, [4, 7]), (14, []), (15, []), (16, [])] [4, 7] (by kernel_rfl) ?_) | (with_reducible (show W _ _ (.code (.region 26 _ true) :: _) _ _); with_reducible refine W_draw [(0, []), (1, []), (2, []), (3, []), (4, []), (5, []), (6, []), (7, []), (8, []), (9, []), (10, []), (12, []), (13, []), (14, []), (15, []), (16, []), (17, []), (18, []), (11, [0, 14, 17]), (19, [0]), (20, [0]), (21, [])] [0, 14, 17] (by kernel_rfl) ?_) | (with_reducible (show W _ _ (.code (.region 28 _ true) :: _) _ _); with_reducible refine W_draw [(0, []), (1, []), (3, []), (8, []), (2, [0, 8]), (4, [8]), (5, []), (6, []), (7, []), (9, []), (10, [])] [0, 8] (by kernel_rfl) ?_) | (with_reducible (show W _ _ (.code (.region 29 _ true) :: _) _ _); with_reducible refine W_draw [(0, []), (1, []), (3, []), (4, []), (9, []), (2, [0, 9]), (5, [9]), (6, []), (7, []), (8, []), (10, []), (11, [])] [0, 9] (by kernel_rfl) ?_) | (with_reducible (show W _ _ (.code (.region 30 _ true) :: _) _ _); with_reducible refine W_draw [(0, []), (1, []), (2, []), (3, []), (4, []), (5, []), (6, []), (7, []), (8, []), (9, []), (10, []), (11, []), (12, []), (13, []), (14, []), (15, []), (16, []), (17, []), (18, []), (19, []), (20, []), (21, []), (22, []), (23, []), (24, []), (25, []), (26, []), (27, []), (29, []), (28, [29]), (30, []), (31, []), (32, [])] [29] (by kernel_rfl) ?_) | ((with_reducible (show CallK _ _ _ _ _ _ _ _ _ _ _); with_reducible refine cm2 (hturn _ _ _ hget_new) ?_))
      all_goals trivial
  · have hrf : rowsB V.length r m = false := by simpa using hrows
    have hmm := rows_false h7r (by omega) hrf
    have c6 : ¬ m < 0 → ¬ 7 < m → IntKind.i64.wrap (m + (V.length : Int)) = m + V.length := fun h1 h2 => wrap_i64 (by omega)
    repeat' first | (with_reducible (show W _ _ _ _ _); with_reducible refine go2 ?_) | (with_reducible (show W _ _ _ _ _); with_reducible refine sg2 ?_ ?_ <;> intro _) | (with_reducible (show W _ _ _ _ _); with_reducible refine sc2 ?_ ?_ <;> intro _) | (with_reducible (show W _ _ (.code (.region 20 _ true) :: _) _ _); with_reducible refine W_draw [(0, []), (1, []), (2, []), (3, []), (4, []), (5, []), (6, []), (7, []), (8, []), (9, []), (10, []), (11, []), (12, []), (13, [4, 7]), (14, []), (15, []), (16, [])] [4, 7] (by kernel_rfl) ?_) | (with_reducible (show W _ _ (.code (.region 26 _ true) :: _) _ _); with_reducible refine W_draw [(0, []), (1, []), (2, []), (3, []), (4, []), (5, []), (6, []), (7, []), (8, []), (9, []), (10, []), (12, []), (13, []), (14, []), (15, []), (16, []), (17, []), (18, []), (11, [0, 14, 17]), (19, [0]), (20, [0]), (21, [])] [0, 14, 17] (by kernel_rfl) ?_) | (with_reducible (show W _ _ (.code (.region 28 _ true) :: _) _ _); with_reducible refine W_draw [(0, []), (1, []), (3, []), (8, []), (2, [0, 8]), (4, [8]), (5, []), (6, []), (7, []), (9, []), (10, [])] [0, 8] (by kernel_rfl) ?_) | (with_reducible (show W _ _ (.code (.region 29 _ true) :: _) _ _); with_reducible refine W_draw [(0, []), (1, []), (3, []), (4, []), (9, []), (2, [0, 9]), (5, [9]), (6, []), (7, []), (8, []), (10, []), (11, [])] [0, 9] (by kernel_rfl) ?_) | (with_reducible (show W _ _ (.code (.region 30 _ true) :: _) _ _); with_reducible refine W_draw [(0, []), (1, []), (2, []), (3, []), (4, []), (5, []), (6, []), (7, []), (8, []), (9, []), (10, []), (11, []), (12, []), (13, []), (14, []), (15, []), (16, []), (17, []), (18, []), (19, []), (20, []), (21, []), (22, []), (23, []), (24, []), (25, []), (26, []), (27, []), (29, []), (28, [29]), (30, []), (31, []), (32, [])] [29] (by kernel_rfl) ?_) | ((with_reducible (show CallK _ _ _ _ _ _ _ _ _ _ _); with_reducible refine cm2 (left_bad ok hl _ (Sl.app hv _) tau m hrf) ?_))
    all_goals first | trivial | (exfalso; omega)
end Go.Proofs.Ytojppdcbnpinbaa.M
