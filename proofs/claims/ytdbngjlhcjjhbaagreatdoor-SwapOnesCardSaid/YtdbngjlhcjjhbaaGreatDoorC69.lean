/- swap.fits where numbers are too great. -/
import Derived.Test.YtdbngjlhcjjhbaaGreatDoorC68
set_option linter.unusedSimpArgs false
set_option linter.unusedVariables false
set_option pp.deepTerms false
set_option pp.maxSteps 1500
set_option maxRecDepth 10000
set_option maxHeartbeats 4000000
namespace Go.Proofs.YtdbngjlhcjjhbaaGreatDoor.M
open Go Go.Proofs

theorem fits_over {n : Int} {p z : Nat} {D : List Int} (h : MatOk n n D) (hn8 : n ≤ 100) {N : Nat} (hN : D.length = N) {H : MH} {rw : Bool} (hp : hget H p = some ⟨D.map u64, rw⟩) {L : List Nat} (hb : blocksM n D = some L) (hfD : finD D = true)
    {r : Int} {q y M : Nat} {E : List Int} {rw' : Bool} (hE : MatOk r n E) (hr : r ≤ 100) (hM : E.length = M) (hq : hget H q = some ⟨E.map u64, rw'⟩) (hfE : finD E = true) (hB : ¬ Bd D E) :
    Spec Tryz.prog 23 [mx n n n p N z, mx r n n q M y] H fun u H' => u = .tup [nils, i64 10] ∧ H' = H := by
  have hlD : D.length ≤ 1000000 := by
    rw [h.len]
    have := h.r0
    have h2 : n * n ≤ 100 * 100 := Int.mul_le_mul hn8 hn8 this (by omega)
    omega
  have hlE : E.length ≤ 1000000 := by
    rw [hE.len]
    have := h.r0
    have h2 : r * n ≤ 100 * 100 := Int.mul_le_mul hr hn8 this (by omega)
    omega
  have hbs := fun L' => blocks_spec h hn8 hN (z := z) (hget_appL (L := L') hp)
  rw [hb] at hbs
  refine Spec.scalar (enterS Tryz.func23 [.tmp 4, .tmp 5] ?_)
  repeat' first | (with_reducible (show W _ _ _ _ _); with_reducible refine go2 ?_) | (with_reducible (show W _ _ _ _ _); with_reducible refine sg2 ?_ ?_ <;> intro _) | ((with_reducible (show CallK _ _ _ _ _ _ _ _ _ _ _); with_reducible refine cx2 (hbs _) ?_; rintro u' H' ⟨v, J, rfl, rfl, hv⟩))
  simp only [Option.getD_some, Option.isSome_some] at hv ⊢
  refine CallK_memQ (fun C => Old H C ∧ hget C H.length = some ⟨[i64 n, i64 n, i64 n, .slice p 0 N z 1], true⟩ ∧ hget C (H.length + 1) = some ⟨[i64 r, i64 n, i64 n, .slice q 0 M y 1], true⟩ ∧ ∃ J, C = H ++ J) ⟨?_, ?_, ?_, ?_⟩ ?_
  · exact (Old.refl H).app _
  · exact hget_new'
  · exact hget_new
  · exact ⟨_, rfl⟩
  rintro C ⟨hO, hb1, hb2, J2, hJ2⟩
  clear hbs
  have f1 : ∀ L', Spec Tryz.prog 21 [mx n n n p N z] (C ++ L') fun v H' => v = bl true ∧ H' = C ++ L' := fun L' => by have := finite_mspec h hN (z := z) (hget_appL (L := L') (hO.get hp)); rwa [hfD] at this
  have f2 : ∀ L', Spec Tryz.prog 21 [mx r n n q M y] (C ++ L') fun v H' => v = bl true ∧ H' = C ++ L' := fun L' => by have := finite_mspec hE hM (z := y) (hget_appL (L := L') (hO.get hq)); rwa [hfE] at this
  have f1' := f1 []
  have f2' := f2 []
  rw [List.append_nil] at f1' f2'
  have g1 := lt_of_hget hb1
  have g2 := lt_of_hget hb2
  have hbL1 : ∀ L', hget (C ++ L') H.length = _ := fun L' => hget_appL hb1
  have hbL2 : ∀ L', hget (C ++ L') (H.length + 1) = _ := fun L' => hget_appL hb2
  have hJ3 : Hid2 (C = H ++ J2) := hJ2
  clear hJ2
  repeat' first | (with_reducible (show W _ _ _ _ _); with_reducible refine go2 ?_) | (with_reducible (show W _ _ _ _ _); with_reducible refine sg2 ?_ ?_ <;> intro _) | (with_reducible (show W _ _ _ _ _); with_reducible refine sc2 ?_ ?_ <;> intro _) | (with_reducible (show CallK _ _ _ _ _ _ _ _ _ _ _); with_reducible refine ce2 (check_ok hE hM _) ?_) | (with_reducible (show CallK _ _ _ _ _ _ _ _ _ _ _); with_reducible refine ce2 (f1') ?_) | (with_reducible (show CallK _ _ _ _ _ _ _ _ _ _ _); with_reducible refine ce2 (f2') ?_) | (with_reducible (show CallK _ _ _ _ _ _ _ _ _ _ _); with_reducible refine ce2 (power_spec (sl_of hget_new' hN) hlD) ?_) | (with_reducible (show CallK _ _ _ _ _ _ _ _ _ _ _); with_reducible refine ce2 (power_spec (sl_of (hget_newL rfl) hM) hlE) ?_) | ((with_reducible (show CallK _ _ _ _ _ _ _ _ _ _ _); first | (with_reducible refine cm2 (clone_spec h hN (hO.get hp)) ?_) | (with_reducible refine cm2 (clone_spec hE hM (hget_appL (hO.get hq))) ?_))) | (rw [W_fieldQ, pv_field]; refine goA2 ?_)
  all_goals first
    | exact ⟨_, by rw [show C = H ++ J2 from hJ3, List.append_assoc]⟩
    | (exfalso; exact hB ⟨fun h1 => ⟨by omega, by omega⟩, by omega⟩)
    | (exfalso; exact hB ⟨fun h1 => by simp_all, by omega⟩)
    | (exfalso; simp_all; done)
/-- The blocks of a triangle: each row one. -/
theorem tri_blk {n : Int} {D : List Int} (hT : Tri n D) : ∀ (f i : Nat), n ≤ (i : Int) + f → (i : Int) ≤ n → ∃ L, blk n D f i = some L ∧ ∀ x, x ∈ L ↔ i ≤ x ∧ (x : Int) < n
  | 0, i, h, h' => ⟨[], rfl, fun x => by simp; omega⟩
  | f + 1, i, h, h' => by
    by_cases hi : (i : Int) < n
    · have hs : stB n D i = true := by
        unfold stB
        by_cases e : ((i + 1 : Nat) : Int) = n
        · simp [e]
        · have := hT (i + 1) i (by omega) (by omega)
          simp only [this, decide_true, Bool.or_true]
      obtain ⟨L, h1, h2⟩ := tri_blk hT f (i + 1) (by omega) (by omega)
      refine ⟨i :: L, by rw [blk_st hi hs, h1]; rfl, fun x => ?_⟩
      rw [List.mem_cons, h2]
      omega
    · exact ⟨[], blk_end hi, fun x => by simp; omega⟩
theorem tri_blocks {n : Int} {D : List Int} (hn : 0 ≤ n) (hT : Tri n D) : ∃ L, blocksM n D = some L ∧ ∀ x, x ∈ L ↔ (x : Int) < n := by
  obtain ⟨L, h1, h2⟩ := tri_blk hT n.toNat 0 (by omega) hn
  refine ⟨L, ?_, fun x => by rw [h2]; omega⟩
  unfold blocksM
  rw [if_pos, h1]
  exact bo_t fun i k hi hk hik => hT i k hi (by omega)
theorem Ls.at {H C : MH} {xs : List Nat} {v : MV} (h : Ls H C 1 (ints xs) xs.length v) : True := trivial
end Go.Proofs.YtdbngjlhcjjhbaaGreatDoor.M
