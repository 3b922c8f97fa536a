/- What a matrix answers. -/
import Derived.Test.YtamoljalficfgaaC7
set_option linter.unusedSimpArgs false
set_option linter.unusedVariables false
set_option maxRecDepth 10000
set_option maxHeartbeats 2000000
namespace Go.Proofs.Ytamoljalficfgaa.M
open Go Go.Proofs

/-- A matrix: its sizes, and where its numbers lie. -/
abbrev mx (r c s : Int) (p n k : Nat) : MV := .agg [i64 r, i64 c, i64 s, .slice p 0 n k 1]
def inM (r c s : Int) (n : Nat) (i k : Int) : Bool := decide (0 ≤ i) && decide (i < r) && decide (0 ≤ k) && decide (k < c) && decide (0 ≤ s) && decide (IntKind.i64.wrap (IntKind.i64.wrap (i * s) + k) < n)
theorem in_spec (r c s : Int) (p n z : Nat) (i k : Int) (H : MH) : Spec Try.prog 32 [mx r c s p n z, i64 i, i64 k] H fun v H' => v = bl (inM r c s n i k) ∧ H' = H := by
  refine Spec.scalar (enterS Try.func32 [.tmp 6] ?_)
  repeat' first | (with_reducible (show W _ _ _ _ _); with_reducible refine go ?_) | (with_reducible (show W _ _ _ _ _); with_reducible refine sg ?_ ?_ <;> intro _) | (with_reducible (show W _ _ _ _ _); with_reducible refine sc ?_ ?_ <;> intro _)
  all_goals simp [inM, *]

def ixM (s i k : Int) : Int := IntKind.i64.wrap (IntKind.i64.wrap (i * s) + k)
def atM (r c s : Int) (D : List Int) (i k : Int) : Int := if inM r c s D.length i k then D.getD (ixM s i k).toNat 0 else 9221120237041090560
theorem at_spec (r c s : Int) (p z : Nat) (D : List Int) (i k : Int) {H : MH} {rw : Bool} (hp : hget H p = some ⟨D.map u64, rw⟩) (h0 : inM r c s D.length i k = true → 0 ≤ IntKind.i64.wrap (IntKind.i64.wrap (i * s) + k)) (h1 : inM r c s D.length i k = true → IntKind.i64.wrap (IntKind.i64.wrap (i * s) + k) < D.length) : Spec Try.prog 13 [mx r c s p D.length z, i64 i, i64 k] H fun v H' => v = u64 (atM r c s D i k) ∧ H' = H := by
  have hpl : p < H.length := by
    rcases Nat.lt_or_ge p H.length with h | h
    · exact h
    · simp [hget, List.getElem?_eq_none h] at hp
  have hlt : inM r c s D.length i k = true → (IntKind.i64.wrap (IntKind.i64.wrap (i * s) + k)).toNat < D.length := fun h => by
    have a := h0 h
    have b := h1 h
    generalize IntKind.i64.wrap (IntKind.i64.wrap (i * s) + k) = y at a b ⊢
    omega
  refine Spec.scalar (enterS Try.func13 [.tmp 6] ?_)
  repeat' first | (with_reducible (show W _ _ _ _ _); with_reducible refine go ?_) | (with_reducible (show W _ _ _ _ _); with_reducible refine sg ?_ ?_ <;> intro _) | (with_reducible (show W _ _ _ _ _); with_reducible refine sc ?_ ?_ <;> intro _) | (with_reducible (show CallK _ _ _ _ _ _ _ _ _ _ _); with_reducible refine ce (in_spec _ _ _ _ _ _ _ _ _) ?_)
  · simp [atM, ixM, *]
  · rename_i hin
    have hi : inM r c s D.length i k = true := by simpa using hin
    have hi2 := hlt hi
    simp [atM, ixM, hi, hget_old hpl, hp, List.getElem?_eq_getElem hi2, Cl]

def setM (r c s : Int) (D : List Int) (i k b : Int) : List Int := if inM r c s D.length i k then D.set (ixM s i k).toNat b else D
theorem hset_id {H : MH} {p : Nat} {o : MO} (h : hget H p = some o) : H.set p (some o) = H := by
  unfold hget at h
  rw [Option.join_eq_some_iff] at h
  apply List.ext_getElem?
  intro j
  rw [List.getElem?_set]
  split
  · subst_vars
    split
    · exact h.symm
    · rename_i hn
      rw [List.getElem?_eq_none (by omega)] at h
      cases h
  · rfl
theorem set_spec (r c s : Int) (p z : Nat) (D : List Int) (i k b : Int) {H : MH} (hp : hget H p = some ⟨D.map u64, true⟩) (h0 : inM r c s D.length i k = true → 0 ≤ IntKind.i64.wrap (IntKind.i64.wrap (i * s) + k)) (h1 : inM r c s D.length i k = true → IntKind.i64.wrap (IntKind.i64.wrap (i * s) + k) < D.length) : Spec Try.prog 17 [mx r c s p D.length z, i64 i, i64 k, u64 b] H fun v H' => v = .tup [] ∧ ∃ J, H' = H.set p (some ⟨(setM r c s D i k b).map u64, true⟩) ++ J := by
  have hpl : p < H.length := by
    rcases Nat.lt_or_ge p H.length with h | h
    · exact h
    · simp [hget, List.getElem?_eq_none h] at hp
  have hlt : inM r c s D.length i k = true → (IntKind.i64.wrap (IntKind.i64.wrap (i * s) + k)).toNat < D.length := fun h => by
    have a := h0 h
    have b := h1 h
    generalize IntKind.i64.wrap (IntKind.i64.wrap (i * s) + k) = y at a b ⊢
    omega
  refine enterS Try.func17 [] ?_
  repeat' first | (with_reducible (show W _ _ _ _ _); with_reducible refine go ?_) | (with_reducible (show W _ _ _ _ _); with_reducible refine sg ?_ ?_ <;> intro _) | (with_reducible (show W _ _ _ _ _); with_reducible refine sc ?_ ?_ <;> intro _) | (with_reducible (show CallK _ _ _ _ _ _ _ _ _ _ _); with_reducible refine ce (in_spec _ _ _ _ _ _ _ _ _) ?_)
  · rename_i hi
    have hl := hlt hi
    have e : (IntKind.i64.wrap (IntKind.i64.wrap (i * s) + k)).toNat * 1 + 1 ≤ (D.map u64).length := by rw [List.length_map]; omega
    rw [if_pos e]
    refine ⟨rfl, [some ⟨[i64 r, i64 c, i64 s, .slice p 0 D.length z 1], true⟩], ?_⟩
    rw [Option.getD_some, setM, if_pos hi, ixM, Nat.mul_one, List.map_set]
  · rename_i hi
    rw [setM, if_neg hi, hset_id hp]
    exact ⟨_, rfl⟩

/-- What is left behind a store of plain numbers is forgotten. -/
theorem _root_.Go.Proofs.Ytamoljalficfgaa.M.Spec.stored {P : Program} {f : FuncId} {args : List MV} {H : MH} {p : Nat} {o : MO} {r : MV} (ho : ∀ c ∈ o.cells, Cl 0 [] c) (hr : Cl 0 [] r) (h : Spec P f args H fun v H' => v = r ∧ ∃ J, H' = H.set p (some o) ++ J) : Spec P f args H fun v H' => v = r ∧ H' = H.set p (some o) := by
  refine Spec.gc h ?_
  rintro v H1 ⟨rfl, J, rfl⟩
  refine ⟨H.set p (some o), J, [], rfl, List.length_set, List.nodup_nil, by simp, ?_, by simp, cl_mono (Nat.zero_le _) v hr, ren_free v hr, by simp⟩
  intro q o' hq
  by_cases e : p = q
  · subst e
    by_cases l : p < H.length
    · rw [hget_set_same l] at hq
      cases hq
      exact .inr ho
    · rw [List.set_eq_of_length_le (by omega)] at hq
      exact .inl hq
  · rw [hget_set_ne e] at hq
    exact .inl hq
end Go.Proofs.Ytamoljalficfgaa.M
