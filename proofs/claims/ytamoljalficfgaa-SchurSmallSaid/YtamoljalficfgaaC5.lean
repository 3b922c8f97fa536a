/- What the functions of soft answer. -/
import Derived.Test.YtamoljalficfgaaC4
set_option linter.unusedSimpArgs false
set_option linter.unusedVariables false
set_option maxRecDepth 10000
set_option maxHeartbeats 20000000
namespace Go.Proofs.Ytamoljalficfgaa.M
open Go Go.Proofs

def nan1 (a : Int) (r : Int × Bool) : Int × Bool := if kindM a = 5 then (if signalsM a then 16 else r.1, true) else r
def nanM (a b : Int) : Int × Bool := nan1 b (nan1 a (0, false))
theorem nan_spec (a b : Int) {H : MH} {p c z : Nat} {rw : Bool} (hp : hget H p = some ⟨[u64 a, u64 b], rw⟩) : Spec Try.prog 78 [.slice p 0 2 c z] H fun v H' => v = .tup [u64 9221120237041090560, u8 (nanM a b).1, bl (nanM a b).2] ∧ H' = H := by
  have w1 : IntKind.i64.wrap (0 + 1) = 1 := by decide
  have w2 : IntKind.i64.wrap (1 + 1) = 2 := by decide
  have c2 : ((2 : Nat) : Int) = 2 := _root_.id rfl
  have t0 : (0 : Int).toNat = 0 := _root_.id rfl
  have t1 : (1 : Int).toNat = 1 := _root_.id rfl
  refine Spec.scalar (enterS Try.func78 [.tmp 2, .tmp 3, .tmp 4] ?_)
  repeat' first | (with_reducible (show W _ _ _ _ _); with_reducible refine go ?_) | (with_reducible (show W _ _ _ _ _); with_reducible refine sg ?_ ?_ <;> intro _) | (with_reducible (show W _ _ _ _ _); with_reducible refine sc ?_ ?_ <;> intro _) | (with_reducible (show CallK _ _ _ _ _ _ _ _ _ _ _); with_reducible refine ce (kind_spec _ _) ?_) | (with_reducible (show CallK _ _ _ _ _ _ _ _ _ _ _); with_reducible refine ce (signals_spec _ _) ?_) | (refine W_loop_n 3 ?_)
  all_goals simp [nanM, nan1, *]

theorem slice_new {H : MH} {x y : MV} {rw : Bool} : hget (H ++ [some ⟨[x, y], rw⟩]) H.length = some ⟨[x, y], rw⟩ := hget_new'

theorem parts_in {a : Int} (ha : InU a) : InU (partsM a).1 := by
  have z : InU 0 := by constructor <;> omega
  unfold partsM
  split
  · dsimp only; exact bits_inU _ _ _
  · split
    · dsimp only; exact bits_inU _ _ _
    · exact z
theorem bsV_two (e : Nat) (z : Value) (c : Bool) (k : IntKind) (x y : Int) : bsV (.slice 1 e (some [z]) c) 2 [(0, .lit (.int k x)), (1, .lit (.int k y))] = some ([.lit (.int k x), .lit (.int k y)], 1) := by
  simp [bsV, fillM, cellsM]
  first | done | exact ⟨by decide, rfl⟩ | rfl
def mulM (a b : Int) : Int × Int :=
  if (nanM a b).2 then (9221120237041090560, (nanM a b).1) else
    let neg := !(negM a == negM b)
    if (kindM a = 4 ∧ kindM b = 1) ∨ (kindM a = 1 ∧ kindM b = 4) then (9221120237041090560, 16) else
    if kindM a = 4 ∨ kindM b = 4 then (makeM neg 2047 0, 0) else
    roundM neg (mul64M (partsM a).1 (partsM b).1) (IntKind.i64.wrap ((partsM a).2 + (partsM b).2)) false
theorem mul_spec (a b : Int) (H : MH) : Spec Try.prog 55 [u64 a, u64 b] H fun v H' => v = .tup [u64 (mulM a b).1, u8 (mulM a b).2] ∧ H' = H := by
  have hm := fun x y => mul64_in x y
  have hb := bsV_two
  refine Spec.scalar (enterS Try.func55 [.tmp 4, .tmp 5] ?_)
  repeat' first | (with_reducible (show W _ _ _ _ _); with_reducible refine go ?_) | (with_reducible (show W _ _ _ _ _); with_reducible refine sg ?_ ?_ <;> intro _) | (with_reducible (show W _ _ _ _ _); with_reducible refine sc ?_ ?_ <;> intro _) | (with_reducible (show CallK _ _ _ _ _ _ _ _ _ _ _); with_reducible refine ce (nan_spec _ _ slice_new) ?_) | (with_reducible (show CallK _ _ _ _ _ _ _ _ _ _ _); with_reducible refine ce (neg_spec _ _) ?_) | (with_reducible (show CallK _ _ _ _ _ _ _ _ _ _ _); with_reducible refine ce (kind_spec _ _) ?_) | (with_reducible (show CallK _ _ _ _ _ _ _ _ _ _ _); with_reducible refine ce (make_spec _ _ _ _) ?_) | (with_reducible (show CallK _ _ _ _ _ _ _ _ _ _ _); with_reducible refine ce (parts_spec _ _) ?_) | (with_reducible (show CallK _ _ _ _ _ _ _ _ _ _ _); with_reducible refine ce (wmul_spec _ _ _) ?_) | (with_reducible (show CallK _ _ _ _ _ _ _ _ _ _ _); with_reducible refine ce (round_spec _ (hm _ _) _ _ _) ?_)
  all_goals simp [mulM, *]

end Go.Proofs.Ytamoljalficfgaa.M
