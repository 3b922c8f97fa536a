/- Square roots. -/
import Derived.Test.YtamoljalficfgaaC30
set_option linter.unusedSimpArgs false
set_option linter.unusedVariables false
set_option maxRecDepth 10000
set_option maxHeartbeats 4000000
namespace Go.Proofs.Ytamoljalficfgaa.M
open Go Go.Proofs

def sqNext (k : Nat) (x : Int) : Int := bits .or .u64 x (shlV .u64 1 (63 - (k : Int)))
def sqStep (w : W2) (k : Nat) (x : Int) : Int := if wcmpM (mul64M (sqNext k x) (sqNext k x)) w ≤ 0 then sqNext k x else x
def sqI (w : W2) (n : Nat) : Int := iter (sqStep w) n 0
theorem sqI_in (w : W2) : ∀ n, InU (sqI w n)
  | 0 => zero_in
  | n + 1 => by
    show InU (sqStep w n (sqI w n))
    unfold sqStep
    split
    · exact bits_inU _ _ _
    · exact sqI_in w n
def wsqrtM (w : W2) : Int × Bool := (sqI w 64, decide ((mul64M (sqI w 64) (sqI w 64)).1 = w.1) && decide ((mul64M (sqI w 64) (sqI w 64)).2 = w.2))
theorem wsqrt_spec (w : W2) (H : MH) : Spec Try.prog 53 [wd w] H fun v H' => v = .tup [u64 (wsqrtM w).1, bl (wsqrtM w).2] ∧ H' = H := by
  refine Spec.scalar (enterS Try.func53 [.tmp 2, .tmp 3] ?_)
  repeat' first | (with_reducible (show W _ _ _ _ _); with_reducible refine go2 ?_) | (with_reducible (show W _ _ _ _ _); with_reducible refine sg2 ?_ ?_ <;> intro _) | (with_reducible (show W _ _ _ _ _); with_reducible refine sc2 ?_ ?_ <;> intro _) | (with_reducible (show W _ _ (.code (.region 6 _ true) :: _) _ _); with_reducible refine W_draw [(0, []), (1, []), (3, []), (2, [3]), (4, []), (5, [])] [3] (by kernel_rfl) ?_) | (with_reducible (show W _ _ (.code (.region 8 _ true) :: _) _ _); with_reducible refine W_draw [(0, []), (1, []), (2, []), (4, []), (3, [4]), (5, []), (6, []), (7, [])] [4] (by kernel_rfl) ?_)
  refine W_for (fun j ρ H' => ∃ k : Nat, k + j = 64 ∧ ρ 1 = .ptr H.length 0 ∧ ρ 4 = u64 (sqI w k) ∧ ρ 5 = i64 (63 - (k : Int)) ∧ H' = H ++ [some ⟨[u64 w.1, u64 w.2], true⟩]) 64 ?_ ?_
  · refine ⟨0, by omega, ?_⟩
    simp [put, args0, sqI, iter]
  rintro j ρ H' ⟨k, hk, h1, h4, h5, rfl⟩
  have hs : 0 ≤ (63 : Int) - k → ((63 : Int) - k < 0) = False := fun h => eq_false (by omega)
  have hb : bits .or .u64 (sqI w k) (shlV .u64 1 (63 - (k : Int))) = sqNext k (sqI w k) := rfl
  have e5 : IntKind.i64.wrap ((63 : Int) - k - 1) = 63 - ((k + 1 : Nat) : Int) := by rw [wrap_i64 (by omega)]; omega
  have hst : sqI w (k + 1) = sqStep w k (sqI w k) := rfl
  repeat' first | (with_reducible (show W _ _ _ _ _); with_reducible refine go2 ?_) | (with_reducible (show W _ _ _ _ _); with_reducible refine sg2 ?_ ?_ <;> intro _) | (with_reducible (show W _ _ _ _ _); with_reducible refine sc2 ?_ ?_ <;> intro _) | (with_reducible (show CallK _ _ _ _ _ _ _ _ _ _ _); with_reducible refine ce2 (wmul_spec _ _ _) ?_) | (with_reducible (show CallK _ _ _ _ _ _ _ _ _ _ _); with_reducible refine ce2 (wcmp_spec _ w _) ?_) | (with_reducible (show W _ _ (.code (.region 6 _ true) :: _) _ _); with_reducible refine W_draw [(0, []), (1, []), (3, []), (2, [3]), (4, []), (5, [])] [3] (by kernel_rfl) ?_) | (with_reducible (show W _ _ (.code (.region 8 _ true) :: _) _ _); with_reducible refine W_draw [(0, []), (1, []), (2, []), (4, []), (3, [4]), (5, []), (6, []), (7, [])] [4] (by kernel_rfl) ?_)
  · rename_i h0 hc
    exact ⟨j - 1, by omega, k + 1, by omega, by rw [hst, sqStep, if_pos hc], rfl⟩
  · rename_i h0 hc
    exact ⟨j - 1, by omega, k + 1, by omega, by rw [hst, sqStep, if_neg hc], rfl⟩
  · have : k = 64 := by omega
    subst this
    rfl
def upM (a : Int) : Int := if bits .and .i64 (IntKind.i64.wrap ((partsM a).2 - IntKind.i64.wrap (127 - lenM (partsM a).1))) 1 = 0 then IntKind.i64.wrap (127 - lenM (partsM a).1) else IntKind.i64.wrap (IntKind.i64.wrap (127 - lenM (partsM a).1) - 1)
def rootM (a : Int) : Int × Bool := wsqrtM (wleftM (0, (partsM a).1) (upM a))
def sqrtM (a : Int) : Int × Int :=
  if kindM a = 5 then (9221120237041090560, if signalsM a then 16 else 0) else if kindM a = 1 ∨ a = 9218868437227405312 then (a, 0) else if negM a then (9221120237041090560, 16) else
  roundM false (0, (rootM a).1) (IntKind.i64.wrap ((IntKind.i64.wrap ((partsM a).2 - upM a)).tdiv 2)) (!(rootM a).2)
theorem sqrtM_in {a : Int} (ha : InU a) : InU (sqrtM a).1 := by
  unfold sqrtM
  repeat' split
  all_goals first | exact quiet_in | exact ha | exact roundM_in _ _ _ _
theorem sqrt_spec {a : Int} (ha : InU a) (H : MH) : Spec Try.prog 34 [u64 a] H fun v H' => v = .tup [u64 (sqrtM a).1, u8 (sqrtM a).2] ∧ H' = H := by
  have hw : ∀ w, InW (0, (wsqrtM w).1) := fun w => ⟨zero_in, sqI_in w 64⟩
  have hp := parts_in ha
  refine Spec.scalar (enterS Try.func34 [.tmp 2, .tmp 3] ?_)
  repeat' first | (with_reducible (show W _ _ _ _ _); with_reducible refine go2 ?_) | (with_reducible (show W _ _ _ _ _); with_reducible refine sg2 ?_ ?_ <;> intro _) | (with_reducible (show W _ _ _ _ _); with_reducible refine sc2 ?_ ?_ <;> intro _) | (with_reducible (show CallK _ _ _ _ _ _ _ _ _ _ _); with_reducible refine ce2 (kind_spec _ _) ?_) | (with_reducible (show CallK _ _ _ _ _ _ _ _ _ _ _); with_reducible refine ce2 (signals_spec _ _) ?_) | (with_reducible (show CallK _ _ _ _ _ _ _ _ _ _ _); with_reducible refine ce2 (neg_spec _ _) ?_) | (with_reducible (show CallK _ _ _ _ _ _ _ _ _ _ _); with_reducible refine ce2 (parts_spec _ _) ?_) | (with_reducible (show CallK _ _ _ _ _ _ _ _ _ _ _); with_reducible refine ce2 (len_spec hp _) ?_) | (with_reducible (show CallK _ _ _ _ _ _ _ _ _ _ _); with_reducible refine ce2 (wleft_spec (0, _) _ _) ?_) | (with_reducible (show CallK _ _ _ _ _ _ _ _ _ _ _); with_reducible refine ce2 (wsqrt_spec (wleftM _ _) _) ?_) | (with_reducible (show CallK _ _ _ _ _ _ _ _ _ _ _); with_reducible refine ce2 (round_spec _ (w := (0, _)) (hw _) _ _ _) ?_)
  all_goals simp_all [sqrtM, rootM, upM]
end Go.Proofs.Ytamoljalficfgaa.M
