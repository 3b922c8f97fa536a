/- hess.Is; a block of two rows: is it plain, and its eigenvalues. -/
import Derived.Test.YtamoljalficfgaaC40
import Derived.Test.YtamoljalficfgaaC37
set_option linter.unusedSimpArgs false
set_option linter.unusedVariables false
set_option maxRecDepth 10000
set_option maxHeartbeats 8000000
namespace Go.Proofs.Ytamoljalficfgaa.M
open Go Go.Proofs

open Classical in
noncomputable def bo (p : Prop) : Bool := decide p
theorem bo_iff {p : Prop} : bo p = true ↔ p := by unfold bo; simp
theorem bo_t {p : Prop} (h : p) : bo p = true := bo_iff.2 h
theorem bo_f {p : Prop} (h : ¬ p) : bo p = false := by unfold bo; simp [h]
theorem bo_of {p : Prop} {b : Bool} (h : b = true ↔ p) : bo p = b := by
  cases b
  · exact bo_f fun hp => by have := h.2 hp; cases this
  · exact bo_t (h.1 rfl)

/-- Zeros beneath what stands beneath the diagonal. -/
def IsH (r c : Int) (D : List Int) : Prop := ∀ i k : Nat, (i : Int) < r → (k : Int) < c → k + 2 ≤ i → kindM (atM r c c D i k) = 1
theorem is_spec {r c : Int} {p z : Nat} {D : List Int} (h : MatOk r c D) {N : Nat} (hN : D.length = N) {H : MH} {rw : Bool} (hp : hget H p = some ⟨D.map u64, rw⟩) :
    Spec Try.prog 19 [mx r c c p N z] H fun v H' => v = bl (bo (IsH r c D)) ∧ H' = H := by
  have hpl := lt_of_hget hp
  have hr := h.r1
  have hc := h.c1
  refine Spec.scalar (enterS Try.func19 [.tmp 2] ?_)
  repeat' first | (with_reducible (show W _ _ _ _ _); with_reducible refine go2 ?_) | (with_reducible (show W _ _ _ _ _); with_reducible refine sg2 ?_ ?_ <;> intro _) | (with_reducible (show W _ _ _ _ _); with_reducible refine sc2 ?_ ?_ <;> intro _)
  refine W_for (fun j ρ H' => ∃ i : Nat, 2 ≤ i ∧ i + j = r.toNat + 2 ∧ Hid2 (∀ i' k : Nat, i' < i → (i' : Int) < r → (k : Int) < c → k + 2 ≤ i' → kindM (atM r c c D i' k) = 1) ∧ ρ 1 = .ptr H.length 0 ∧ ρ 3 = i64 i ∧ H' = H ++ [some ⟨[i64 r, i64 c, i64 c, .slice p 0 N z 1], true⟩]) r.toNat ?_ ?_
  · refine ⟨2, by omega, by omega, fun i' k h1 h2 h3 h4 => by omega, ?_⟩
    simp [put, args0]
  rintro j ρ H' ⟨i, hi2, hi, hall, h1, h3, rfl⟩
  repeat' first | (with_reducible (show W _ _ _ _ _); with_reducible refine go2 ?_) | (with_reducible (show W _ _ _ _ _); with_reducible refine sg2 ?_ ?_ <;> intro _) | (with_reducible (show W _ _ _ _ _); with_reducible refine sc2 ?_ ?_ <;> intro _)
  · rename_i hlt
    have e5 : IntKind.i64.wrap ((i : Int) - 1) = (i : Int) - 1 := wrap_i64 (by omega)
    refine W_for (fun j' ρ H' => ∃ k : Nat, k + j' = c.toNat ∧ Hid2 (∀ k' : Nat, k' < k → (k' : Int) < c → k' + 2 ≤ i → kindM (atM r c c D i k') = 1) ∧ ρ 1 = .ptr H.length 0 ∧ ρ 3 = i64 i ∧ ρ 4 = i64 k ∧ H' = H ++ [some ⟨[i64 r, i64 c, i64 c, .slice p 0 N z 1], true⟩]) c.toNat ?_ ?_
    · refine ⟨0, by omega, fun k' hk => by omega, ?_⟩
      simp [put, *]
    clear h1 h3
    rintro j' ρ' H' ⟨k, hk, hrow, h1, h3, h4, rfl⟩
    have e4 : (k : Int) < c → IntKind.i64.wrap ((k : Int) + 1) = ((k + 1 : Nat) : Int) := fun h => by rw [wrap_i64 (by omega)]; omega
    have e3 : IntKind.i64.wrap ((i : Int) + 1) = ((i + 1 : Nat) : Int) := by rw [wrap_i64 (by omega)]; omega
    repeat' first | (with_reducible (show W _ _ _ _ _); with_reducible refine go2 ?_) | (with_reducible (show W _ _ _ _ _); with_reducible refine sg2 ?_ ?_ <;> intro _) | (with_reducible (show W _ _ _ _ _); with_reducible refine sc2 ?_ ?_ <;> intro _) | (with_reducible (show CallK _ _ _ _ _ _ _ _ _ _ _); with_reducible refine ce2 (at_ok h _ _ ((hget_old hpl).trans hp) hN) ?_) | (with_reducible (show CallK _ _ _ _ _ _ _ _ _ _ _); with_reducible refine ce2 (kind_spec _ _) ?_)
    · rename_i a1 a2 a3
      rw [bo_f fun hI => a3 (hI i k hlt a2 (by omega))]
    · rename_i a1 a2 a3
      refine ⟨j' - 1, by omega, k + 1, by omega, fun k' hk' hc' hk2 => ?_, rfl⟩
      by_cases e : k' = k
      · subst e; exact a3
      · exact hrow k' (by omega) hc' hk2
    all_goals
      rename_i a2
      refine ⟨j - 1, by omega, i + 1, by omega, by omega, fun i' k' hi' hr' hc' hk2 => ?_, rfl⟩
      by_cases e : i' = i
      · subst e; exact hrow k' (by omega) hc' hk2
      · exact hall i' k' (by omega) hr' hc' hk2
  · rename_i hge
    rw [bo_t (p := IsH r c D) fun i' k hr' hc' hk2 => hall i' k (by omega) hr' hc' hk2]

def plainM (a b c d : Int) : Bool := decide (kindM c = 1) || (decide (a = d) && decide (kindM b ≠ 1) && (negM b != negM c))
theorem plain_spec (a b c d : Int) (H : MH) : Spec Try.prog 31 [.agg [u64 a, u64 b, u64 c, u64 d]] H fun v H' => v = bl (plainM a b c d) ∧ H' = H := by
  refine Spec.scalar (enterS Try.func31 [.tmp 2] ?_)
  repeat' first | (with_reducible (show W _ _ _ _ _); with_reducible refine go2 ?_) | (with_reducible (show W _ _ _ _ _); with_reducible refine sg2 ?_ ?_ <;> intro _) | (with_reducible (show W _ _ _ _ _); with_reducible refine sc2 ?_ ?_ <;> intro _) | (with_reducible (show CallK _ _ _ _ _ _ _ _ _ _ _); with_reducible refine ce2 (kind_spec _ _) ?_) | (with_reducible (show CallK _ _ _ _ _ _ _ _ _ _ _); with_reducible refine ce2 (neg_spec _ _) ?_) | (with_reducible (show W _ _ (.code (.region 3 _ true) :: _) _ _); with_reducible refine W_draw [(0, []), (1, []), (2, []), (3, []), (4, []), (5, []), (6, []), (7, []), (8, []), (9, []), (10, []), (11, []), (12, []), (13, []), (15, []), (16, []), (14, [16]), (17, []), (18, []), (19, []), (20, [])] [16] (by kernel_rfl) ?_)
  all_goals simp_all [plainM]
  all_goals (cases negM b <;> cases negM c <;> rfl)
/-- The two eigenvalues of a block, as four numbers; what was met. -/
def bvM (a b c d : Int) : (Int × Int × Int × Int) × Int :=
  if kindM c = 1 then ((a, 0, d, 0), 0) else
    let x := sqrtM (absM b)
    let y := sqrtM (absM c)
    let m := mulM x.1 y.1
    ((a, m.1, d, flipM m.1), bits .or .u8 (bits .or .u8 (bits .or .u8 0 x.2) y.2) m.2)
theorem bv_spec (a b c d : Int) (H : MH) : Spec Try.prog 14 [.agg [u64 a, u64 b, u64 c, u64 d]] H fun v H' => v = .tup [.agg [u64 (bvM a b c d).1.1, u64 (bvM a b c d).1.2.1, u64 (bvM a b c d).1.2.2.1, u64 (bvM a b c d).1.2.2.2], u8 (bvM a b c d).2] ∧ H' = H := by
  have hg : ∀ (x y : Option MO) (g : Int) (L : MH), hget (H ++ x :: y :: some ⟨[u8 g], true⟩ :: L) (H.length + 2) = some ⟨[u8 g], true⟩ := fun x y g L => hget_new (i := 2)
  refine Spec.scalar (enterS Try.func14 [.cell 2 41, .tmp 3] ?_)
  repeat' first | (with_reducible (show W _ _ _ _ _); with_reducible refine go2 ?_) | (with_reducible (show W _ _ _ _ _); with_reducible refine sg2 ?_ ?_ <;> intro _) | (with_reducible (show W _ _ _ _ _); with_reducible refine sc2 ?_ ?_ <;> intro _) | (with_reducible (show CallK _ _ _ _ _ _ _ _ _ _ _); with_reducible refine ce2 (kind_spec _ _) ?_) | (with_reducible (show CallK _ _ _ _ _ _ _ _ _ _ _); with_reducible refine ce2 (abs_spec _ _) ?_) | (with_reducible (show CallK _ _ _ _ _ _ _ _ _ _ _); with_reducible refine ce2 (flip_spec _ _) ?_) | (with_reducible (show CallK _ _ _ _ _ _ _ _ _ _ _); with_reducible refine ce2 (sqrt_spec (abs_in _) _) ?_) | (with_reducible (show W _ _ (.code (.region 7 _ true) :: _) _ _); with_reducible refine W_draw [(0, []), (1, []), (2, []), (3, []), (4, []), (5, []), (6, []), (10, []), (11, []), (7, [1, 5, 11]), (8, []), (9, []), (12, [11]), (13, [])] [1, 5, 11] (by kernel_rfl) ?_) | ((with_reducible (show CallK _ _ _ _ _ _ _ _ _ _ _); first | (with_reducible refine cm2 (Note_spec _ _ _ (hg _ _ _ _)) ?_) | (with_reducible refine cm2 (cmul_spec _ _ _ (hg _ _ _ _)) ?_)))
  all_goals simp_all [bvM]
end Go.Proofs.Ytamoljalficfgaa.M
