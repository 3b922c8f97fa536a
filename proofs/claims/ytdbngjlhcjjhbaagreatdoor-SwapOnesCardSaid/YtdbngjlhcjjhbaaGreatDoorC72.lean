/- A triangle of some numbers. -/
import Derived.Test.YtdbngjlhcjjhbaaGreatDoorC71
import Derived.Test.YtdbngjlhcjjhbaaGreatDoorC62
set_option linter.unusedSimpArgs false
set_option linter.unusedVariables false
set_option pp.deepTerms false
set_option pp.maxSteps 1500
set_option maxRecDepth 10000
set_option maxHeartbeats 4000000
namespace Go.Proofs.YtdbngjlhcjjhbaaGreatDoor.M
open Go Go.Proofs

theorem tri_zero {n : Int} {N : Nat} (h : MatOk n n (List.replicate N 0)) : Tri n (List.replicate N 0) := fun i k hi hk => by
  rw [atM_in' h hi (by omega), List.getD_eq_getElem?_getD, List.getElem?_replicate]
  split <;> decide
theorem tri_set {n : Int} {D : List Int} (h : MatOk n n D) (hT : Tri n D) {i k : Nat} (hi : (i : Int) < n) (hk : (k : Int) < n) (hik : i ≤ k) (b : Int) : Tri n (setM n n n D i k b) := fun x y hx hy => by
  rw [at_set_ne h hi hk hx (by omega) (by omega)]
  exact hT x y hx hy
theorem shr0 (x : Int) : bits .and .u64 (shrV .u64 0 x) 1 = 0 := by
  have h : shrV .u64 0 x = 0 := Int.zero_fdiv _
  rw [h]
  decide
theorem upper0_spec (n0 : Nat) (hn7 : n0 ≤ 7) {v : MV} {xs : List Int} {H : MH} (hv : Sl H v xs) (hI : InD xs) {N : Nat} (hN : n0 * n0 = N) :
    Spec Tryz.prog 7 [i64 (n0 : Int), v, u64 0] H fun u H' => ∃ E : List Int, (MatOk n0 n0 E ∧ InD E ∧ Tri n0 E) ∧ u = mx n0 n0 n0 H.length N N ∧ H' = H ++ [some ⟨E.map u64, true⟩] := by
  have hlen := len22 hv
  have h40 : 0 ≤ (n0 : Int) ∧ (n0 : Int) ≤ 4096 := by omega
  have hNN : ((n0 : Int) * n0).toNat = N := by rw [← hN]; exact_mod_cast Int.toNat_natCast (n0 * n0)
  refine Spec.oneX (G := fun E : List Int => MatOk n0 n0 E ∧ InD E ∧ Tri n0 E) (v := fun _ p => mx n0 n0 n0 p N N) (cs := fun E => E.map u64) (fun _ => closed_u64 _) (fun _ p => by simp [Cl, Cls']) (fun _ π p _ => by simp [ren, rens]) ?_
  refine enterS Tryz.func7 [.cell 6 25] ?_
  have hnew : ∀ H, Spec Tryz.prog 13 [i64 (n0 : Int), i64 (n0 : Int)] H fun v H' => v = mx n0 n0 n0 H.length N N ∧ H' = H ++ [some ⟨(List.replicate N 0).map u64, true⟩] := fun H => by have := new_spec _ _ h40 h40 H; rw [hNN, map_rep] at this; exact this
  repeat' first | (with_reducible (show W _ _ _ _ _); with_reducible refine go2 ?_) | (with_reducible (show W _ _ _ _ _); with_reducible refine sg2 ?_ ?_ <;> intro _) | (with_reducible (show W _ _ _ _ _); with_reducible refine sc2 ?_ ?_ <;> intro _) | (with_reducible (show W _ _ (.code (.region 9 _ true) :: _) _ _); with_reducible refine W_draw [(0, []), (1, []), (2, []), (3, []), (4, []), (5, []), (6, []), (7, []), (8, []), (9, []), (10, []), (11, []), (12, []), (13, []), (14, [])] [] (by kernel_rfl) ?_) | (with_reducible (show W _ _ (.code (.region 15 _ true) :: _) _ _); with_reducible refine W_draw [(0, []), (1, []), (2, []), (3, []), (4, []), (5, []), (6, []), (7, []), (8, [0]), (9, [])] [0] (by kernel_rfl) ?_) | (with_reducible (show W _ _ (.code (.region 19 _ true) :: _) _ _); with_reducible refine W_draw [(0, []), (1, []), (2, []), (3, []), (4, []), (5, []), (6, [0]), (7, [0]), (8, [])] [0] (by kernel_rfl) ?_) | ((with_reducible (show CallK _ _ _ _ _ _ _ _ _ _ _); with_reducible refine cm2 (hnew _) ?_))
  have hia2 : ∀ k : Nat, k < xs.length → iaV (.slice 1 8 (some [.int .u64 0]) true) v (.lit (.int .i64 k)) = some (ixq v k) := fun k h => hv.ia h _ _ _ _
  have hld2 : ∀ (L : MH) (k : Nat), k < xs.length → loadV Tryz.prog 27 (ixq v k) (H ++ L) = some (u64 (xs.getD k 0)) := fun L k h => (hv.app L).ld (by rw [ty_27]) (by rw [ty_27]) h
  have hzero : MatOk n0 n0 (List.replicate N 0) := by have := MatOk.zero h40 h40; rw [hNN] at this; exact this
  refine W_for (fun j ρ H' => ∃ (i : Nat) (E : List Int), i + j = n0 ∧ MatOk n0 n0 E ∧ InD E ∧ Tri n0 E ∧ ρ 0 = i64 (n0 : Int) ∧ ρ 1 = v ∧ ρ 2 = u64 0 ∧ ρ 6 = .ptr H.length 0 ∧ ρ 7 = .ptr (H.length + 2) 0 ∧ ρ 8 = i64 i ∧
    H' = H ++ [some ⟨[i64 0, i64 0, i64 0, nils], true⟩, some ⟨E.map u64, true⟩, some ⟨[i64 n0, i64 n0, i64 n0, .slice (H.length + 1) 0 N N 1], true⟩]) n0 ?_ ?_
  · refine ⟨0, List.replicate N 0, by omega, hzero, InD.rep N, tri_zero hzero, ?_⟩
    simp [put, args0]
  rintro j ρ H' ⟨i, E, hi, hE, hEI, hT, h0, h1, h2, h6, h7, h8, rfl⟩
  repeat' first | (with_reducible (show W _ _ _ _ _); with_reducible refine go2 ?_) | (with_reducible (show W _ _ _ _ _); with_reducible refine sg2 ?_ ?_ <;> intro _) | (with_reducible (show W _ _ _ _ _); with_reducible refine sc2 ?_ ?_ <;> intro _) | (with_reducible (show W _ _ (.code (.region 9 _ true) :: _) _ _); with_reducible refine W_draw [(0, []), (1, []), (2, []), (3, []), (4, []), (5, []), (6, []), (7, []), (8, []), (9, []), (10, []), (11, []), (12, []), (13, []), (14, [])] [] (by kernel_rfl) ?_) | (with_reducible (show W _ _ (.code (.region 15 _ true) :: _) _ _); with_reducible refine W_draw [(0, []), (1, []), (2, []), (3, []), (4, []), (5, []), (6, []), (7, []), (8, [0]), (9, [])] [0] (by kernel_rfl) ?_) | (with_reducible (show W _ _ (.code (.region 19 _ true) :: _) _ _); with_reducible refine W_draw [(0, []), (1, []), (2, []), (3, []), (4, []), (5, []), (6, [0]), (7, [0]), (8, [])] [0] (by kernel_rfl) ?_)
  · rename_i hlt
    refine W_for (fun j' ρ H' => ∃ (k : Nat) (E : List Int), k + j' = n0 ∧ i ≤ k ∧ MatOk n0 n0 E ∧ InD E ∧ Tri n0 E ∧ ρ 0 = i64 (n0 : Int) ∧ ρ 1 = v ∧ ρ 2 = u64 0 ∧ ρ 6 = .ptr H.length 0 ∧ ρ 7 = .ptr (H.length + 2) 0 ∧ ρ 8 = i64 i ∧ ρ 9 = i64 k ∧
      H' = H ++ [some ⟨[i64 0, i64 0, i64 0, nils], true⟩, some ⟨E.map u64, true⟩, some ⟨[i64 n0, i64 n0, i64 n0, .slice (H.length + 1) 0 N N 1], true⟩]) (n0 - i) ?_ ?_
    · refine ⟨i, E, by omega, Nat.le_refl _, hE, hEI, hT, ?_⟩
      simp [put, *]
    clear h0 h1 h2 h6 h7 h8 hE hEI hT E
    rintro j' ρ' H' ⟨k, E, hk, hik, hE, hEI, hT, h0, h1, h2, h6, h7, h8, h9, rfl⟩
    have hEl : E.length = N := hE.len.trans hNN
    have em : IntKind.i64.wrap ((i : Int) * n0) = ((i * n0 : Nat) : Int) := by
      have : i * n0 ≤ 7 * 7 := Nat.mul_le_mul (by omega) hn7
      rw [← Int.natCast_mul, wrap_i64 (by omega)]
    have ea : (k : Int) < n0 → IntKind.i64.wrap (((i * n0 : Nat) : Int) + k) = ((i * n0 + k : Nat) : Int) := fun h => by
      have : i * n0 ≤ 7 * 7 := Nat.mul_le_mul (by omega) hn7
      rw [wrap_i64 (by omega)]; omega
    have f1 : 0 < (xs.length : Int) → ((xs.length : Int) = 0) = False := fun h => eq_false (by omega)
    have f2 : ((i * n0 + k : Nat) : Int).tmod xs.length = (((i * n0 + k) % xs.length : Nat) : Int) := tmod_nat _ _
    have f3 : 0 < (xs.length : Int) → iaV (.slice 1 8 (some [.int .u64 0]) true) v (.lit (.int .i64 (((i * n0 + k) % xs.length : Nat) : Int))) = some (ixq v ((i * n0 + k) % xs.length)) := fun h => hia2 _ (Nat.mod_lt _ (by omega))
    have f4 : ∀ L, 0 < (xs.length : Int) → loadV Tryz.prog 27 (ixq v ((i * n0 + k) % xs.length)) (H ++ L) = some (u64 (xs.getD ((i * n0 + k) % xs.length) 0)) := fun L h => hld2 _ _ (Nat.mod_lt _ (by omega))
    have ek : (k : Int) < n0 → IntKind.i64.wrap ((k : Int) + 1) = ((k + 1 : Nat) : Int) := fun h => by rw [wrap_i64 (by omega)]; omega
    have ei : IntKind.i64.wrap ((i : Int) + 1) = ((i + 1 : Nat) : Int) := by rw [wrap_i64 (by omega)]; omega
    repeat' first | (with_reducible (show W _ _ _ _ _); with_reducible refine go2 ?_) | (with_reducible (show W _ _ _ _ _); with_reducible refine sg2 ?_ ?_ <;> intro _) | (with_reducible (show W _ _ _ _ _); with_reducible refine sc2 ?_ ?_ <;> intro _) | (with_reducible (show W _ _ (.code (.region 9 _ true) :: _) _ _); with_reducible refine W_draw [(0, []), (1, []), (2, []), (3, []), (4, []), (5, []), (6, []), (7, []), (8, []), (9, []), (10, []), (11, []), (12, []), (13, []), (14, [])] [] (by kernel_rfl) ?_) | (with_reducible (show W _ _ (.code (.region 15 _ true) :: _) _ _); with_reducible refine W_draw [(0, []), (1, []), (2, []), (3, []), (4, []), (5, []), (6, []), (7, []), (8, [0]), (9, [])] [0] (by kernel_rfl) ?_) | (with_reducible (show W _ _ (.code (.region 19 _ true) :: _) _ _); with_reducible refine W_draw [(0, []), (1, []), (2, []), (3, []), (4, []), (5, []), (6, [0]), (7, [0]), (8, [])] [0] (by kernel_rfl) ?_) | ((with_reducible (show CallK _ _ _ _ _ _ _ _ _ _ _); with_reducible refine cm2 (set_ok hE _ _ _ (hget_newL rfl) hEl) ?_))
    · exact ⟨j' - 1, by omega, k + 1, _, by omega, by omega, hE.set _ _ _, hEI.setm _ _ _ _ _ (getD_in hI _), tri_set hE hT (by omega) (by omega) (by omega) _, rfl, rfl⟩
    · exact ⟨j' - 1, by omega, k + 1, E, by omega, by omega, hE, hEI, hT, rfl, rfl⟩
    · exact ⟨j - 1, by omega, i + 1, E, by omega, hE, hEI, hT, rfl, rfl⟩
  · rename_i hge
    refine W_for (fun j' ρ H' => ∃ (i : Nat) (E : List Int), i + j' = n0 + 1 ∧ MatOk n0 n0 E ∧ InD E ∧ Tri n0 E ∧ ρ 0 = i64 (n0 : Int) ∧ ρ 1 = v ∧ ρ 2 = u64 0 ∧ ρ 6 = .ptr H.length 0 ∧ ρ 7 = .ptr (H.length + 2) 0 ∧ ρ 10 = i64 i ∧
      H' = H ++ [some ⟨[i64 0, i64 0, i64 0, nils], true⟩, some ⟨E.map u64, true⟩, some ⟨[i64 n0, i64 n0, i64 n0, .slice (H.length + 1) 0 N N 1], true⟩]) (n0 + 1) ?_ ?_
    · refine ⟨0, E, by omega, hE, hEI, hT, ?_⟩
      simp [put, *]
    clear h0 h1 h2 h6 h7 h8 hE hEI hT E hi
    rintro j' ρ' H' ⟨i, E, hi, hE, hEI, hT, h0, h1, h2, h6, h7, h10, rfl⟩
    have hEl : E.length = N := hE.len.trans hNN
    have hshr : ∀ x, ¬ IntKind.u64.wrap x < 0 := fun x => by have := (wrap_inU x).1; omega
    have f1 : 0 < (xs.length : Int) → ((xs.length : Int) = 0) = False := fun h => eq_false (by omega)
    have f2 : (i : Int).tmod xs.length = ((i % xs.length : Nat) : Int) := tmod_nat _ _
    have f3 : 0 < (xs.length : Int) → iaV (.slice 1 8 (some [.int .u64 0]) true) v (.lit (.int .i64 ((i % xs.length : Nat) : Int))) = some (ixq v (i % xs.length)) := fun h => hia2 _ (Nat.mod_lt _ (by omega))
    have f4 : ∀ L, 0 < (xs.length : Int) → loadV Tryz.prog 27 (ixq v (i % xs.length)) (H ++ L) = some (u64 (xs.getD (i % xs.length) 0)) := fun L h => hld2 _ _ (Nat.mod_lt _ (by omega))
    have ei : IntKind.i64.wrap ((i : Int) + 1) = ((i + 1 : Nat) : Int) := by rw [wrap_i64 (by omega)]; omega
    have ei2 : IntKind.i64.wrap (((i + 1 : Nat) : Int) + 1) = ((i + 2 : Nat) : Int) := by rw [wrap_i64 (by omega)]; omega
    have hdata : ∀ (a : Option MO) (L : MH), hget (H ++ a :: some ⟨E.map u64, true⟩ :: L) (H.length + 1) = some ⟨E.map u64, true⟩ := fun a L => hget_newL rfl
    have hE2 : MatOk n0 n0 (setM n0 n0 n0 E ((i + 1 : Nat) : Int) ((i + 1 : Nat) : Int) (atM n0 n0 n0 E i i)) := hE.set _ _ _
    have hEI2 : InD (setM n0 n0 n0 E ((i + 1 : Nat) : Int) ((i + 1 : Nat) : Int) (atM n0 n0 n0 E i i)) := hEI.setm _ _ _ _ _ (atM_in hEI _ _ _ _ _)
    have hEl2 := hE2.len.trans hNN
    have hsh0 := shr0
    repeat' first | (with_reducible (show W _ _ _ _ _); with_reducible refine go2 ?_) | (with_reducible (show W _ _ _ _ _); with_reducible refine sg2 ?_ ?_ <;> intro _) | (with_reducible (show W _ _ _ _ _); with_reducible refine sc2 ?_ ?_ <;> intro _) | (with_reducible (show CallK _ _ _ _ _ _ _ _ _ _ _); with_reducible refine ce2 (at_ok hE _ _ (hdata _ _) hEl) ?_) | (with_reducible (show CallK _ _ _ _ _ _ _ _ _ _ _); with_reducible refine ce2 (abs_spec _ _) ?_) | (with_reducible (show CallK _ _ _ _ _ _ _ _ _ _ _); with_reducible refine ce2 (kind_spec _ _) ?_) | (with_reducible (show CallK _ _ _ _ _ _ _ _ _ _ _); with_reducible refine ce2 (sign_spec _ _ _) ?_) | (with_reducible (show CallK _ _ _ _ _ _ _ _ _ _ _); with_reducible refine ce2 (flip_spec _ _) ?_) | (with_reducible (show W _ _ (.code (.region 9 _ true) :: _) _ _); with_reducible refine W_draw [(0, []), (1, []), (2, []), (3, []), (4, []), (5, []), (6, []), (7, []), (8, []), (9, []), (10, []), (11, []), (12, []), (13, []), (14, [])] [] (by kernel_rfl) ?_) | (with_reducible (show W _ _ (.code (.region 15 _ true) :: _) _ _); with_reducible refine W_draw [(0, []), (1, []), (2, []), (3, []), (4, []), (5, []), (6, []), (7, []), (8, [0]), (9, [])] [0] (by kernel_rfl) ?_) | (with_reducible (show W _ _ (.code (.region 19 _ true) :: _) _ _); with_reducible refine W_draw [(0, []), (1, []), (2, []), (3, []), (4, []), (5, []), (6, [0]), (7, [0]), (8, [])] [0] (by kernel_rfl) ?_) | ((with_reducible (show CallK _ _ _ _ _ _ _ _ _ _ _); first | (with_reducible refine cm2 (set_ok hE _ _ _ (hdata _ _) hEl) ?_) | (with_reducible refine cm2 (set_ok hE2 _ _ _ (hget_newL rfl) hEl2) ?_)))
    all_goals first
      | exact ⟨j' - 1, by omega, i + 1, E, by omega, hE, hEI, hT, rfl, rfl⟩
      | exact ⟨E, H.length + 1, ⟨hE, hEI, hT⟩, rfl, by omega, hget_newL rfl, (Old.refl H).app _⟩
end Go.Proofs.YtdbngjlhcjjhbaaGreatDoor.M
