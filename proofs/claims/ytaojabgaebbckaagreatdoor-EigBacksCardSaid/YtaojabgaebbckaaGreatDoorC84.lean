/- A square of patterns, of the laws of layer 24. -/
import Derived.Test.YtaojabgaebbckaaGreatDoorC37
import Derived.Test.YtaojabgaebbckaaGreatDoorJ
set_option linter.unusedSimpArgs false
set_option linter.unusedVariables false
set_option maxRecDepth 10000
set_option maxHeartbeats 8000000
namespace Go.Proofs.YtaojabgaebbckaaGreatDoor.M
open Go Go.Proofs

def pickM (xs : List Int) (h : Int) (k : Nat) : Bool := decide (0 < xs.length) && decide (bits .and .u64 (shrV .u64 h (IntKind.u64.wrap (bits .and .i64 k 63))) 1 = 0)
def madeM (n : Int) (xs : List Int) (h : Int) (m : Nat) : List Int := iter (fun k D => if pickM xs h k then D.set k (xs.getD (k % xs.length) 0) else D) m (List.replicate (n * n).toNat 0)
theorem made_len (n : Int) (xs : List Int) (h : Int) : ∀ m, (madeM n xs h m).length = (n * n).toNat
  | 0 => by simp [madeM, iter]
  | m + 1 => by
    have := made_len n xs h m
    unfold madeM at this ⊢
    simp only [iter]
    split
    · rw [List.length_set]; exact this
    · exact this
theorem made_ok {n : Int} (h : 0 ≤ n ∧ n ≤ 4096) (xs : List Int) (holes : Int) (m : Nat) : MatOk n n (madeM n xs holes m) := ⟨h.1, h.2, h.1, h.2, made_len _ _ _ _⟩
theorem made_spec {n : Int} (h : 0 ≤ n ∧ n ≤ 4096) {v : MV} {xs : List Int} {H : MH} (hv : Sl H v xs) (holes : Int) {N : Nat} (hN : (n * n).toNat = N) : Spec Tryz.prog 10 [i64 n, v, u64 holes] H fun v H' => v = mx n n n H.length N N ∧ H' = H ++ [some ⟨(madeM n xs holes N).map u64, true⟩] := by
  have hsq : 0 ≤ n * n ∧ n * n ≤ 4096 * 4096 := ⟨Int.mul_nonneg h.1 h.1, Int.mul_le_mul h.2 h.2 h.1 (by omega)⟩
  refine Spec.one (q := 1) (J := [some ⟨[i64 n, i64 n, i64 n, .slice (H.length + 1) 0 N N 1], true⟩, some ⟨(madeM n xs holes N).map u64, true⟩, some ⟨[i64 n, i64 n, i64 n, .slice (H.length + 1) 0 N N 1], true⟩])
    (v := fun p => mx n n n p N N) (closed_u64 _) (fun p => by simp [Cl, Cls']) (fun π p _ => by simp [ren, rens]) rfl ?_
  have hshr : ∀ x, ¬ IntKind.u64.wrap x < 0 := fun x => by have := (wrap_inU x).1; omega
  have hn : (n * n).toNat = N := hN
  rcases hv with ⟨rfl, a, rfl⟩ | ⟨p, o, c, ob, rfl, hp, hcell⟩
  · refine enterS Tryz.func10 [.cell 6 38] ?_
    repeat' first | (with_reducible (show W _ _ _ _ _); with_reducible refine go2 ?_) | (with_reducible (show W _ _ _ _ _); with_reducible refine sg2 ?_ ?_ <;> intro _) | (with_reducible (show W _ _ _ _ _); with_reducible refine sc2 ?_ ?_ <;> intro _) | (with_reducible (show W _ _ (.code (.region 6 _ true) :: _) _ _); with_reducible refine W_draw [(0, []), (1, []), (2, []), (3, []), (4, []), (5, []), (6, []), (7, []), (8, []), (9, []), (10, []), (11, [])] [] (by kernel_rfl) ?_) | ((with_reducible (show CallK _ _ _ _ _ _ _ _ _ _ _); with_reducible refine cm2 (new_spec n n h h _) ?_))
    refine W_for (fun j ρ H' => ∃ k : Nat, k + j = N ∧ ρ 1 = .lit (.slice a 0 0) ∧ ρ 2 = u64 holes ∧ ρ 6 = .ptr H.length 0 ∧ ρ 7 = .ptr (H.length + 2) 0 ∧ ρ 14 = i64 (N : Int) ∧ ρ 15 = i64 k ∧
      H' = H ++ [some ⟨[i64 0, i64 0, i64 0, .lit (.slice none 0 0)], true⟩, some ⟨(madeM n [] holes k).map u64, true⟩, some ⟨[i64 n, i64 n, i64 n, .slice (H.length + 1) 0 N N 1], true⟩]) N ?_ ?_
    · refine ⟨0, by omega, ?_⟩
      simp [put, args0, madeM, iter, hN]
    · rintro j ρ H' ⟨k, hk, h1, h2, h6, h7, h14, h15, rfl⟩
      have c0 : ((0 : Nat) : Int) = 0 := _root_.id rfl
      repeat' first | (with_reducible (show W _ _ _ _ _); with_reducible refine go2 ?_) | (with_reducible (show W _ _ _ _ _); with_reducible refine sg2 ?_ ?_ <;> intro _) | (with_reducible (show W _ _ _ _ _); with_reducible refine sc2 ?_ ?_ <;> intro _) | (with_reducible (show W _ _ (.code (.region 6 _ true) :: _) _ _); with_reducible refine W_draw [(0, []), (1, []), (2, []), (3, []), (4, []), (5, []), (6, []), (7, []), (8, []), (9, []), (10, []), (11, [])] [] (by kernel_rfl) ?_)
      · refine ⟨j - 1, by omega, k + 1, by omega, by rw [wrap_suc (by assumption) (by omega)], ?_⟩
        simp [madeM, iter, pickM]
      · have : k = N := by omega
        subst this
        rfl
  · have hpl := lt_of_hget hp
    refine enterS Tryz.func10 [.cell 6 38] ?_
    repeat' first | (with_reducible (show W _ _ _ _ _); with_reducible refine go2 ?_) | (with_reducible (show W _ _ _ _ _); with_reducible refine sg2 ?_ ?_ <;> intro _) | (with_reducible (show W _ _ _ _ _); with_reducible refine sc2 ?_ ?_ <;> intro _) | (with_reducible (show W _ _ (.code (.region 6 _ true) :: _) _ _); with_reducible refine W_draw [(0, []), (1, []), (2, []), (3, []), (4, []), (5, []), (6, []), (7, []), (8, []), (9, []), (10, []), (11, [])] [] (by kernel_rfl) ?_) | ((with_reducible (show CallK _ _ _ _ _ _ _ _ _ _ _); with_reducible refine cm2 (new_spec n n h h _) ?_))
    refine W_for (fun j ρ H' => ∃ k : Nat, k + j = N ∧ ρ 1 = .slice p o xs.length c 1 ∧ ρ 2 = u64 holes ∧ ρ 6 = .ptr H.length 0 ∧ ρ 7 = .ptr (H.length + 2) 0 ∧ ρ 14 = i64 (N : Int) ∧ ρ 15 = i64 k ∧
      H' = H ++ [some ⟨[i64 0, i64 0, i64 0, .lit (.slice none 0 0)], true⟩, some ⟨(madeM n xs holes k).map u64, true⟩, some ⟨[i64 n, i64 n, i64 n, .slice (H.length + 1) 0 N N 1], true⟩]) N ?_ ?_
    · refine ⟨0, by omega, ?_⟩
      simp [put, args0, madeM, iter, hN]
    · rintro j ρ H' ⟨k, hk, h1, h2, h6, h7, h14, h15, rfl⟩
      have hl := (made_len n xs holes k).trans hN
      have f1 : 0 < (xs.length : Int) → ((xs.length : Int) = 0) = False := fun h => eq_false (by omega)
      have f2 : (k : Int).tmod xs.length = ((k % xs.length : Nat) : Int) := (Int.ofNat_tmod k xs.length).symm
      have f3 : ∀ m : Nat, (0 ≤ (m : Int)) = True := fun m => eq_true (by omega)
      have f4 : 0 < (xs.length : Int) → (((k % xs.length : Nat) : Int) < xs.length) = True := fun h => eq_true (by have := Nat.mod_lt k (show 0 < xs.length by omega); omega)
      have f5 : ∀ m : Nat, (m : Int).toNat = m := fun m => Int.toNat_natCast m
      have f6 : ∀ m : Nat, m * 1 = m := Nat.mul_one
      have f7 : 0 < (xs.length : Int) → ob.cells[o + k % xs.length]? = some (u64 (xs.getD (k % xs.length) 0)) := fun h => hcell _ (Nat.mod_lt k (by omega))
      have f8 : (k : Int) < N → (k + 1 ≤ (List.map u64 (madeM n xs holes k)).length) = True := fun h => eq_true (by rw [List.length_map, hl]; omega)
      repeat' first | (with_reducible (show W _ _ _ _ _); with_reducible refine go2 ?_) | (with_reducible (show W _ _ _ _ _); with_reducible refine sg2 ?_ ?_ <;> intro _) | (with_reducible (show W _ _ _ _ _); with_reducible refine sc2 ?_ ?_ <;> intro _) | (with_reducible (show W _ _ (.code (.region 6 _ true) :: _) _ _); with_reducible refine W_draw [(0, []), (1, []), (2, []), (3, []), (4, []), (5, []), (6, []), (7, []), (8, []), (9, []), (10, []), (11, [])] [] (by kernel_rfl) ?_)
      · rename_i a1 a2 a3
        refine ⟨j - 1, by omega, k + 1, by omega, by rw [wrap_suc (by assumption) (by omega)], ?_⟩
        have : pickM xs holes k = true := by simp only [pickM, Bool.and_eq_true, decide_eq_true_eq]; exact ⟨by omega, a3⟩
        simp only [madeM, iter, this, if_true, List.map_set]
      · rename_i a1 a2 a3
        refine ⟨j - 1, by omega, k + 1, by omega, by rw [wrap_suc (by assumption) (by omega)], ?_⟩
        have : pickM xs holes k = false := by simp only [pickM, Bool.and_eq_false_iff, decide_eq_false_iff_not]; exact .inr a3
        simp only [madeM, iter, this, Bool.false_eq_true, if_false]
      · rename_i a1 a2
        refine ⟨j - 1, by omega, k + 1, by omega, by rw [wrap_suc (by assumption) (by omega)], ?_⟩
        have : pickM xs holes k = false := by simp only [pickM, Bool.and_eq_false_iff, decide_eq_false_iff_not]; exact .inl (by omega)
        simp only [madeM, iter, this, Bool.false_eq_true, if_false]
      · have : k = N := by omega
        subst this
        rfl
theorem made_in {n : Int} {xs : List Int} (hI : InD xs) (h : Int) : ∀ m, InD (madeM n xs h m)
  | 0 => InD.rep _
  | m + 1 => by
    have ih := made_in (n := n) hI h m
    show InD (if pickM xs h m then (madeM n xs h m).set m (xs.getD (m % xs.length) 0) else madeM n xs h m)
    split
    · exact ih.set _ (getD_in hI _)
    · exact ih
end Go.Proofs.YtaojabgaebbckaaGreatDoor.M
