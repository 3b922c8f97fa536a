/- The law SweepShifts, in the small machine. -/
import Derived.Test.YthkafhjfaekaiaaC16
import Derived.Test.YthkafhjfaekaiaaC17
set_option linter.unusedSimpArgs false
set_option linter.unusedVariables false
set_option maxRecDepth 10000
set_option maxHeartbeats 4000000
namespace Go.Proofs.Ythkafhjfaekaiaa.M
open Go Go.Proofs

theorem and7' (n : Int) : 0 ≤ bits .and .i64 n 7 ∧ bits .and .i64 n 7 ≤ 7 := by
  unfold bits
  dsimp only
  rw [BitVec.toNat_and]
  have h : (BitVec.ofInt IntKind.i64.bits n).toNat &&& (BitVec.ofInt IntKind.i64.bits 7).toNat ≤ 7 := Nat.and_le_right
  rw [wrap_i64 (by omega)]
  omega
theorem cx2 {g : FuncId} {Q : MQ} {k : List It} {ρ : Env} {H : MH} {args : List MV} {d l F} {K : MV → MH → Prop} (hs : Spec Try.prog g args H K) (h : ∀ v H', K v H' → W Try.prog Q (.run l F :: k) (put ρ d v) H') : CallK Try.prog Q (.fn (.func g) [] []) args d [] l F k ρ H :=
  CallK_of (a := []) (b := []) (by simpa using hs) (fun v H' hk => ⟨held_none _ _ _, h v H' hk⟩)

theorem shifts (n : Int) {v : MV} {xs : List Int} {H : MH} (hv : Sl H v xs) (hI : InD xs) (hi : Int) : Spec Try.prog 5 [i64 n, v, i64 hi] H fun v H' => v = bl true ∧ H' = H := by
  have hlen22 : lenV Try.prog 22 v = some (i64 (xs.length : Int)) := by
    rcases hv with ⟨rfl, a, rfl⟩ | ⟨p, o, c, ob, rfl, _, _⟩ <;> simp [lenV, ty_22]
  have h7 := and7' n
  refine Spec.scalar (enterS Try.func5 [.tmp 6] ?_)
  repeat' first | (with_reducible (show W _ _ _ _ _); with_reducible refine go2 ?_) | (with_reducible (show W _ _ _ _ _); with_reducible refine sg2 ?_ ?_ <;> intro _) | (with_reducible (show W _ _ _ _ _); with_reducible refine sc2 ?_ ?_ <;> intro _) | (with_reducible (show CallK _ _ _ _ _ _ _ _ _ _ _); with_reducible refine ce2 (head18_spec _) ?_) | (with_reducible (show W _ _ (.code (.region 14 _ true) :: _) _ _); with_reducible refine W_draw [(0, []), (1, []), (2, []), (3, []), (4, []), (5, []), (7, []), (8, []), (9, []), (10, []), (11, []), (6, [7]), (12, []), (13, []), (14, [])] [7] (by kernel_rfl) ?_) | (with_reducible (show W _ _ (.code (.region 15 _ true) :: _) _ _); with_reducible refine W_draw [(0, []), (1, []), (2, []), (3, []), (4, []), (5, [1]), (6, []), (7, []), (8, []), (9, []), (10, []), (11, []), (12, []), (13, [9]), (14, []), (15, [])] [1, 9] (by kernel_rfl) ?_) | (with_reducible (show W _ _ (.code (.region 18 _ true) :: _) _ _); with_reducible refine W_draw [(0, []), (1, []), (2, []), (3, []), (4, []), (5, []), (8, []), (9, []), (10, []), (11, []), (12, []), (6, [8]), (7, [8]), (13, []), (14, []), (15, []), (16, [])] [8] (by kernel_rfl) ?_) | (with_reducible (show W _ _ (.code (.region 20 _ true) :: _) _ _); with_reducible refine W_draw [(0, []), (1, []), (2, []), (3, []), (4, []), (5, [1]), (6, []), (7, []), (8, []), (9, []), (10, []), (11, []), (12, []), (13, []), (15, []), (16, []), (17, []), (18, []), (14, [9]), (19, [9]), (20, [9]), (21, [9]), (22, []), (23, []), (24, [])] [1, 9] (by kernel_rfl) ?_)
  · trivial
  generalize hm : bits .and .i64 n 7 = m at h7
  have h40 : 0 ≤ m ∧ m ≤ 4096 := by omega
  generalize hN : (m * m).toNat = N
  (with_reducible (show CallK _ _ _ _ _ _ _ _ _ _ _)); with_reducible refine cx2 (made18_spec h40 hv hI 0 hN) ?_
  rintro u H' ⟨D, ⟨ok, hD⟩, rfl, rfl⟩
  have hat := fun i k => atM_in hD m m m i k
  have hl := ok.len.trans hN
  repeat' first | (with_reducible (show W _ _ _ _ _); with_reducible refine go2 ?_) | (with_reducible (show W _ _ _ _ _); with_reducible refine sg2 ?_ ?_ <;> intro _) | (with_reducible (show W _ _ _ _ _); with_reducible refine sc2 ?_ ?_ <;> intro _) | (with_reducible (show CallK _ _ _ _ _ _ _ _ _ _ _); with_reducible refine ce2 (usual_spec ok hD _ hget_new' hl) ?_) | (with_reducible (show CallK _ _ _ _ _ _ _ _ _ _ _); with_reducible refine ce2 (other_spec ok hD _ hget_new' hl) ?_) | (with_reducible (show W _ _ (.code (.region 14 _ true) :: _) _ _); with_reducible refine W_draw [(0, []), (1, []), (2, []), (3, []), (4, []), (5, []), (7, []), (8, []), (9, []), (10, []), (11, []), (6, [7]), (12, []), (13, []), (14, [])] [7] (by kernel_rfl) ?_) | (with_reducible (show W _ _ (.code (.region 15 _ true) :: _) _ _); with_reducible refine W_draw [(0, []), (1, []), (2, []), (3, []), (4, []), (5, [1]), (6, []), (7, []), (8, []), (9, []), (10, []), (11, []), (12, []), (13, [9]), (14, []), (15, [])] [1, 9] (by kernel_rfl) ?_) | (with_reducible (show W _ _ (.code (.region 18 _ true) :: _) _ _); with_reducible refine W_draw [(0, []), (1, []), (2, []), (3, []), (4, []), (5, []), (8, []), (9, []), (10, []), (11, []), (12, []), (6, [8]), (7, [8]), (13, []), (14, []), (15, []), (16, [])] [8] (by kernel_rfl) ?_) | (with_reducible (show W _ _ (.code (.region 20 _ true) :: _) _ _); with_reducible refine W_draw [(0, []), (1, []), (2, []), (3, []), (4, []), (5, [1]), (6, []), (7, []), (8, []), (9, []), (10, []), (11, []), (12, []), (13, []), (15, []), (16, []), (17, []), (18, []), (14, [9]), (19, [9]), (20, [9]), (21, [9]), (22, []), (23, []), (24, [])] [1, 9] (by kernel_rfl) ?_) | ((with_reducible (show CallK _ _ _ _ _ _ _ _ _ _ _); (first | (with_reducible refine cn2 (at_ok ok _ _ hget_new' hl) (hat _ _) ?_) | (with_reducible refine cn2 (abs_spec _ _) (abs_in _) ?_) | (with_reducible refine cn2 (cmul_spec _ _ _ hget_new) (mulM_in _ _) ?_) | (with_reducible refine cn2 (cadd_spec (by assumption) (by assumption) _ hget_new) (addM_in (by assumption) (by assumption)) ?_) | (with_reducible refine cn2 (csub_spec (by assumption) _ _ hget_new) (addM_in (by assumption) (flip_in _)) ?_)); intro r hr er))
  all_goals first | trivial | (simp only [Is] at *; subst_vars; simp_all [usualM, otherM])
end Go.Proofs.Ythkafhjfaekaiaa.M
