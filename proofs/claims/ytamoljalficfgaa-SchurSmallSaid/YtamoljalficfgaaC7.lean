/- What a Calc's methods answer: with nobody to remember, and with a Calc. -/
import Derived.Test.YtamoljalficfgaaC6
set_option linter.unusedSimpArgs false
set_option linter.unusedVariables false
set_option maxRecDepth 10000
set_option maxHeartbeats 2000000
namespace Go.Proofs.Ytamoljalficfgaa.M
open Go Go.Proofs

abbrev nilp : MV := .lit (.pointer none)
theorem note_nil (b f : Int) (H : MH) : Spec Try.prog 49 [nilp, u64 b, u8 f] H fun v H' => v = u64 b ∧ H' = H := by
  refine Spec.scalar (enterS Try.func49 [.tmp 6] ?_)
  repeat' first | (with_reducible (show W _ _ _ _ _); with_reducible refine go ?_) | (with_reducible (show W _ _ _ _ _); with_reducible refine sg ?_ ?_ <;> intro _) | (with_reducible (show W _ _ _ _ _); with_reducible refine sc ?_ ?_ <;> intro _)
  all_goals simp [*]
theorem note_spec (b f g : Int) {H : MH} {p : Nat} (hp : hget H p = some ⟨[u8 g], true⟩) : Spec Try.prog 49 [.ptr p 0, u64 b, u8 f] H fun v H' => v = u64 b ∧ H' = H.set p (some ⟨[u8 (bits .or .u8 g f)], true⟩) := by
  refine enterS Try.func49 [.tmp 6] ?_
  repeat' first | (with_reducible (show W _ _ _ _ _); with_reducible refine go ?_) | (with_reducible (show W _ _ _ _ _); with_reducible refine sg ?_ ?_ <;> intro _) | (with_reducible (show W _ _ _ _ _); with_reducible refine sc ?_ ?_ <;> intro _)
  all_goals simp [*]

/-- A call that changes the memory. -/
theorem cM {g : FuncId} {Q : MQ} {k : List It} {ρ : Env} {H H1 : MH} {args : List MV} {d l F} {r : MV} (hs : Spec Try.prog g args H fun v H' => v = r ∧ H' = H1) (h : W Try.prog Q (.run l F :: k) (put ρ d r) H1) : CallK Try.prog Q (.fn (.func g) [] []) args d [] l F k ρ H :=
  CallK_of (a := []) (b := []) (by simpa using hs) (by rintro v H' ⟨rfl, rfl⟩; exact ⟨held_none _ _ _, h⟩)
theorem Note_nil (b f : Int) (H : MH) : Spec Try.prog 33 [nilp, u64 b, u8 f] H fun v H' => v = u64 b ∧ H' = H := by
  refine Spec.scalar (enterS Try.func33 [.tmp 6] ?_)
  repeat' first | (with_reducible (show W _ _ _ _ _); with_reducible refine go ?_) | (with_reducible (show W _ _ _ _ _); with_reducible refine sg ?_ ?_ <;> intro _) | (with_reducible (show W _ _ _ _ _); with_reducible refine sc ?_ ?_ <;> intro _) | (with_reducible (show CallK _ _ _ _ _ _ _ _ _ _ _); with_reducible refine ce (note_nil _ _ _) ?_)
  all_goals simp [*]
theorem Note_spec (b f g : Int) {H : MH} {p : Nat} (hp : hget H p = some ⟨[u8 g], true⟩) : Spec Try.prog 33 [.ptr p 0, u64 b, u8 f] H fun v H' => v = u64 b ∧ H' = H.set p (some ⟨[u8 (bits .or .u8 g f)], true⟩) := by
  refine enterS Try.func33 [.tmp 6] ?_
  repeat' first | (with_reducible (show W _ _ _ _ _); with_reducible refine go ?_) | (with_reducible (show W _ _ _ _ _); with_reducible refine sg ?_ ?_ <;> intro _) | (with_reducible (show W _ _ _ _ _); with_reducible refine sc ?_ ?_ <;> intro _) | ((with_reducible (show CallK _ _ _ _ _ _ _ _ _ _ _); with_reducible refine cM (note_spec _ _ _ hp) ?_))
  all_goals simp [*]
theorem cmul_nil (a b : Int) (H : MH) : Spec Try.prog 35 [nilp, u64 a, u64 b] H fun v H' => v = u64 (mulM a b).1 ∧ H' = H := by
  refine Spec.scalar (enterS Try.func35 [.tmp 6] ?_)
  repeat' first | (with_reducible (show W _ _ _ _ _); with_reducible refine go ?_) | (with_reducible (show W _ _ _ _ _); with_reducible refine sg ?_ ?_ <;> intro _) | (with_reducible (show W _ _ _ _ _); with_reducible refine sc ?_ ?_ <;> intro _) | (with_reducible (show CallK _ _ _ _ _ _ _ _ _ _ _); with_reducible refine ce (note_nil _ _ _) ?_) | (with_reducible (show CallK _ _ _ _ _ _ _ _ _ _ _); with_reducible refine ce (mul_spec _ _ _) ?_)
  all_goals simp [*]
theorem cmul_spec (a b g : Int) {H : MH} {p : Nat} (hp : hget H p = some ⟨[u8 g], true⟩) : Spec Try.prog 35 [.ptr p 0, u64 a, u64 b] H fun v H' => v = u64 (mulM a b).1 ∧ H' = H.set p (some ⟨[u8 (bits .or .u8 g (mulM a b).2)], true⟩) := by
  refine enterS Try.func35 [.tmp 6] ?_
  repeat' first | (with_reducible (show W _ _ _ _ _); with_reducible refine go ?_) | (with_reducible (show W _ _ _ _ _); with_reducible refine sg ?_ ?_ <;> intro _) | (with_reducible (show W _ _ _ _ _); with_reducible refine sc ?_ ?_ <;> intro _) | (with_reducible (show CallK _ _ _ _ _ _ _ _ _ _ _); with_reducible refine ce (mul_spec _ _ _) ?_) | ((with_reducible (show CallK _ _ _ _ _ _ _ _ _ _ _); with_reducible refine cM (note_spec _ _ _ hp) ?_))
  all_goals simp [*]

theorem cadd_nil {a b : Int} (ha : InU a) (hb : InU b) (H : MH) : Spec Try.prog 65 [nilp, u64 a, u64 b] H fun v H' => v = u64 (addM a b).1 ∧ H' = H := by
  refine Spec.scalar (enterS Try.func65 [.tmp 6] ?_)
  repeat' first | (with_reducible (show W _ _ _ _ _); with_reducible refine go ?_) | (with_reducible (show W _ _ _ _ _); with_reducible refine sg ?_ ?_ <;> intro _) | (with_reducible (show W _ _ _ _ _); with_reducible refine sc ?_ ?_ <;> intro _) | (with_reducible (show CallK _ _ _ _ _ _ _ _ _ _ _); with_reducible refine ce (note_nil _ _ _) ?_) | (with_reducible (show CallK _ _ _ _ _ _ _ _ _ _ _); with_reducible refine ce (add_spec ha hb _) ?_)
  all_goals simp [*]
theorem cadd_spec {a b : Int} (ha : InU a) (hb : InU b) (g : Int) {H : MH} {p : Nat} (hp : hget H p = some ⟨[u8 g], true⟩) : Spec Try.prog 65 [.ptr p 0, u64 a, u64 b] H fun v H' => v = u64 (addM a b).1 ∧ H' = H.set p (some ⟨[u8 (bits .or .u8 g (addM a b).2)], true⟩) := by
  refine enterS Try.func65 [.tmp 6] ?_
  repeat' first | (with_reducible (show W _ _ _ _ _); with_reducible refine go ?_) | (with_reducible (show W _ _ _ _ _); with_reducible refine sg ?_ ?_ <;> intro _) | (with_reducible (show W _ _ _ _ _); with_reducible refine sc ?_ ?_ <;> intro _) | (with_reducible (show CallK _ _ _ _ _ _ _ _ _ _ _); with_reducible refine ce (add_spec ha hb _) ?_) | ((with_reducible (show CallK _ _ _ _ _ _ _ _ _ _ _); with_reducible refine cM (note_spec _ _ _ hp) ?_))
  all_goals simp [*]

theorem csub_nil {a : Int} (ha : InU a) (b : Int) (H : MH) : Spec Try.prog 61 [nilp, u64 a, u64 b] H fun v H' => v = u64 (addM a (flipM b)).1 ∧ H' = H := by
  refine Spec.scalar (enterS Try.func61 [.tmp 6] ?_)
  repeat' first | (with_reducible (show W _ _ _ _ _); with_reducible refine go ?_) | (with_reducible (show W _ _ _ _ _); with_reducible refine sg ?_ ?_ <;> intro _) | (with_reducible (show W _ _ _ _ _); with_reducible refine sc ?_ ?_ <;> intro _) | (with_reducible (show CallK _ _ _ _ _ _ _ _ _ _ _); with_reducible refine ce (note_nil _ _ _) ?_) | (with_reducible (show CallK _ _ _ _ _ _ _ _ _ _ _); with_reducible refine ce (sub_spec ha _ _) ?_)
  all_goals simp [*]
theorem csub_spec {a : Int} (ha : InU a) (b : Int) (g : Int) {H : MH} {p : Nat} (hp : hget H p = some ⟨[u8 g], true⟩) : Spec Try.prog 61 [.ptr p 0, u64 a, u64 b] H fun v H' => v = u64 (addM a (flipM b)).1 ∧ H' = H.set p (some ⟨[u8 (bits .or .u8 g (addM a (flipM b)).2)], true⟩) := by
  refine enterS Try.func61 [.tmp 6] ?_
  repeat' first | (with_reducible (show W _ _ _ _ _); with_reducible refine go ?_) | (with_reducible (show W _ _ _ _ _); with_reducible refine sg ?_ ?_ <;> intro _) | (with_reducible (show W _ _ _ _ _); with_reducible refine sc ?_ ?_ <;> intro _) | (with_reducible (show CallK _ _ _ _ _ _ _ _ _ _ _); with_reducible refine ce (sub_spec ha _ _) ?_) | ((with_reducible (show CallK _ _ _ _ _ _ _ _ _ _ _); with_reducible refine cM (note_spec _ _ _ hp) ?_))
  all_goals simp [*]

theorem make_in (neg : Bool) (e f : Int) : InU (makeM neg e f) := by
  unfold makeM
  dsimp only
  split
  · exact bits_inU _ _ _
  · exact bits_inU _ _ _

theorem round3_in (neg : Bool) (m e : Int) (l t : Bool) : InU (round3 neg m e l t).1 := by
  unfold round3
  dsimp only
  split
  · exact make_in _ _ _
  · split
    · exact make_in _ _ _
    · exact make_in _ _ _
theorem roundM_in (neg : Bool) (w : W2) (e : Int) (m : Bool) : InU (roundM neg w e m).1 := by
  unfold roundM
  dsimp only
  split
  · exact make_in _ _ _
  · exact round3_in _ _ _ _ _
theorem quiet_in : InU 9221120237041090560 := by constructor <;> omega
theorem mulM_in (a b : Int) : InU (mulM a b).1 := by
  unfold mulM
  split
  · exact quiet_in
  · dsimp only
    split
    · exact quiet_in
    · split
      · exact make_in _ _ _
      · exact roundM_in _ _ _ _
theorem add2_in (a b : Int) : InU (add2 a b).1 := by
  have z : InU 0 := by constructor <;> omega
  unfold add2
  dsimp only
  repeat' split
  all_goals first | exact roundM_in _ _ _ _ | exact z
theorem addM_in {a b : Int} (ha : InU a) (hb : InU b) : InU (addM a b).1 := by
  have h : InU (bits .and .u64 a b) := bits_inU _ _ _
  unfold addM
  repeat' split
  all_goals first | exact quiet_in | exact ha | exact hb | exact h | exact add2_in _ _
end Go.Proofs.Ytamoljalficfgaa.M
