/- A square of patterns, again and again. -/
import Derived.Test.YtamoljalficfgaaC12
import Derived.Test.YtamoljalficfgaaJ
set_option linter.unusedSimpArgs false
set_option linter.unusedVariables false
set_option maxRecDepth 10000
set_option maxHeartbeats 8000000
namespace Go.Proofs.Ytamoljalficfgaa.M
open Go Go.Proofs

def pickM (xs : List Int) (h : Int) (k : Nat) : Bool := decide (0 < xs.length) && decide (bits .and .u64 (shrV .u64 h (IntKind.u64.wrap (bits .and .i64 k 63))) 1 = 0)
def madeM (n : Int) (xs : List Int) (h : Int) (m : Nat) : List Int := iter (fun k D => if pickM xs h k then D.set k (xs.getD (k % xs.length) 0) else D) m (List.replicate (n * n).toNat 0)
theorem made_len (n : Int) (xs : List Int) (h : Int) : ∀ m, (madeM n xs h m).length = (n * n).toNat
  | 0 => by simp [madeM, iter]
  | m + 1 => by
    have := made_len n xs h m
    unfold madeM at this ⊢
    simp only [iter]
    split
    · rw [List.length_set]; exact this
    · exact this
theorem made_ok {n : Int} (h : 0 ≤ n ∧ n ≤ 4096) (xs : List Int) (holes : Int) (m : Nat) : MatOk n n (madeM n xs holes m) := ⟨h.1, h.2, h.1, h.2, made_len _ _ _ _⟩
end Go.Proofs.Ytamoljalficfgaa.M
