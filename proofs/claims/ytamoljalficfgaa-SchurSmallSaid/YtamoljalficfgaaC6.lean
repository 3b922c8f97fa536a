/- What soft.Add and soft.Sub answer. -/
import Derived.Test.YtamoljalficfgaaC5
set_option linter.unusedSimpArgs false
set_option linter.unusedVariables false
set_option maxRecDepth 10000
set_option maxHeartbeats 20000000
namespace Go.Proofs.Ytamoljalficfgaa.M
open Go Go.Proofs

def add2 (a b : Int) : Int × Int :=
  let p := wleftM (0, (partsM a).1) 64
  let q := wrightM (wleftM (0, (partsM b).1) 64) (IntKind.i64.wrap ((partsM a).2 - (partsM b).2))
  let e := IntKind.i64.wrap ((partsM a).2 - 64)
  if negM a = negM b then roundM (negM a) (waddM p q.1).1 e q.2 else
    let s := (wsubM p (if q.2 then (waddM q.1 (0, 1)).1 else q.1)).1
    if wzeroM s = true ∧ q.2 = false then (0, 0) else roundM (negM a) s e q.2
def addM (a b : Int) : Int × Int :=
  if (nanM a b).2 then (9221120237041090560, (nanM a b).1) else
  if kindM a = 4 ∧ kindM b = 4 ∧ a ≠ b then (9221120237041090560, 16) else
  if kindM a = 4 then (a, 0) else if kindM b = 4 then (b, 0) else
  if kindM a = 1 ∧ kindM b = 1 then (bits .and .u64 a b, 0) else
  if kindM a = 1 then (b, 0) else if kindM b = 1 then (a, 0) else
  if absM a < absM b then add2 b a else add2 a b
/-! Calls of which the answer is named anew, with what is known of it. -/
theorem held_none (P : Program) (H : MH) : ∀ F, held P [] H F
  | [] => by simp [held]
  | x :: F => by simp [held]; exact held_none P H F
theorem cL {g : FuncId} {Q : MQ} {k : List It} {ρ : Env} {H : MH} {args : List MV} {d l F} {r0 : W2} (hs : Spec Try.prog g args H fun v H' => v = wd r0 ∧ H' = H) (hc : InW r0)
    (h : ∀ r, InW r → Is r r0 → W Try.prog Q (.run l F :: k) (put ρ d (wd r)) H) : CallK Try.prog Q (.fn (.func g) [] []) args d [] l F k ρ H := CallK_eq hs (held_none _ _ _) (h r0 hc rfl)
theorem cB {g : FuncId} {Q : MQ} {k : List It} {ρ : Env} {H : MH} {args : List MV} {d l F} {r0 : W2 × Bool} (hs : Spec Try.prog g args H fun v H' => v = .tup [wd r0.1, bl r0.2] ∧ H' = H) (hc : InW r0.1)
    (h : ∀ (r : W2) (x : Bool), InW r → Is r r0.1 → Is x r0.2 → W Try.prog Q (.run l F :: k) (put ρ d (.tup [wd r, bl x])) H) : CallK Try.prog Q (.fn (.func g) [] []) args d [] l F k ρ H := CallK_eq hs (held_none _ _ _) (h r0.1 r0.2 hc rfl rfl)
theorem add_spec {a b : Int} (ha : InU a) (hb : InU b) (H : MH) : Spec Try.prog 84 [u64 a, u64 b] H fun v H' => v = .tup [u64 (addM a b).1, u8 (addM a b).2] ∧ H' = H := by
  have hs := bsV_two
  have z : InU 0 := by constructor <;> omega
  have o1 : InW (0, 1) := by refine ⟨⟨?_, ?_⟩, ⟨?_, ?_⟩⟩ <;> simp
  obtain ⟨one, hone, o, ag⟩ : ∃ q : W2, Is q (0, 1) ∧ InW q ∧ MV.agg [u64 0, u64 1] = wd q := ⟨(0, 1), rfl, o1, rfl⟩
  clear o1
  have pa : InW (0, (partsM a).1) := ⟨z, parts_in ha⟩
  have pb : InW (0, (partsM b).1) := ⟨z, parts_in hb⟩
  refine Spec.scalar (enterS Try.func84 [.tmp 4, .tmp 5] ?_)
  repeat' first | (with_reducible (show W _ _ _ _ _); with_reducible refine go ?_) | (with_reducible (show W _ _ _ _ _); with_reducible refine sg ?_ ?_ <;> intro _) | (with_reducible (show W _ _ _ _ _); with_reducible refine sc ?_ ?_ <;> intro _) | (with_reducible (show CallK _ _ _ _ _ _ _ _ _ _ _); with_reducible refine ce (nan_spec _ _ slice_new) ?_) | (with_reducible (show CallK _ _ _ _ _ _ _ _ _ _ _); with_reducible refine ce (neg_spec _ _) ?_) | (with_reducible (show CallK _ _ _ _ _ _ _ _ _ _ _); with_reducible refine ce (kind_spec _ _) ?_) | (with_reducible (show CallK _ _ _ _ _ _ _ _ _ _ _); with_reducible refine ce (abs_spec _ _) ?_) | (with_reducible (show CallK _ _ _ _ _ _ _ _ _ _ _); with_reducible refine ce (parts_spec _ _) ?_) | (with_reducible (show CallK _ _ _ _ _ _ _ _ _ _ _); with_reducible refine ce (wzero_spec _ _) ?_) | (with_reducible (show CallK _ _ _ _ _ _ _ _ _ _ _); with_reducible refine ce (round_spec _ (by assumption) _ _ _) ?_) | (with_reducible (show W _ _ (.code (.region 25 _ true) :: _) _ _); with_reducible refine W_draw [(0, []), (2, []), (3, []), (4, []), (5, []), (1, [2]), (6, []), (7, []), (8, []), (9, []), (10, [])] [2] (by kernel_rfl) ?_) | (with_reducible (show W _ _ (.code (.region 31 _ true) :: _) _ _); with_reducible refine W_draw [(0, []), (2, []), (3, []), (4, []), (5, []), (1, [2]), (6, []), (7, []), (8, []), (9, []), (10, [])] [2] (by kernel_rfl) ?_) | (with_reducible (show CallK _ _ _ _ _ _ _ _ _ _ _); first | (with_reducible refine cL (wleft_spec (0, _) _ _) (wleft_in (by assumption) _) ?_; intro r hr er) | (with_reducible refine cB (wright_spec _ _ _) (wright_in (by assumption) _) ?_; intro r x hr er ex) | (with_reducible refine cB (wadd_spec (by assumption) (by assumption) _) (waddM_in _ _) ?_; intro r x hr er ex) | (with_reducible refine cB (wsub_spec (by assumption) (by assumption) _) (wsubM_in _ _) ?_; intro r x hr er ex))
  all_goals try clear ag
  all_goals try simp only [Is] at *
  all_goals first | (simp [addM, add2, *]; done) | simp_all [addM, add2, -Int.not_lt]

theorem flip_in (b : Int) : InU (flipM b) := bits_inU _ _ _
theorem sub_spec {a : Int} (ha : InU a) (b : Int) (H : MH) : Spec Try.prog 81 [u64 a, u64 b] H fun v H' => v = .tup [u64 (addM a (flipM b)).1, u8 (addM a (flipM b)).2] ∧ H' = H := by
  refine Spec.scalar (enterS Try.func81 [.tmp 4, .tmp 5] ?_)
  repeat' first | (with_reducible (show W _ _ _ _ _); with_reducible refine go ?_) | (with_reducible (show W _ _ _ _ _); with_reducible refine sg ?_ ?_ <;> intro _) | (with_reducible (show W _ _ _ _ _); with_reducible refine sc ?_ ?_ <;> intro _) | (with_reducible (show CallK _ _ _ _ _ _ _ _ _ _ _); with_reducible refine ce (flip_spec _ _) ?_) | (with_reducible (show CallK _ _ _ _ _ _ _ _ _ _ _); with_reducible refine ce (add_spec ha (flip_in _) _) ?_)
  all_goals simp [*]
end Go.Proofs.Ytamoljalficfgaa.M
