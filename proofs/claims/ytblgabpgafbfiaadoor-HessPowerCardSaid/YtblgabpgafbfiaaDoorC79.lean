/- The law HessPower, in the small machine. -/
import Derived.Test.YtblgabpgafbfiaaDoorC31
import Derived.Test.YtblgabpgafbfiaaDoorC77
import Derived.Test.YtblgabpgafbfiaaDoorC78
set_option linter.unusedSimpArgs false
set_option linter.unusedVariables false
set_option pp.deepTerms false
set_option pp.maxSteps 1500
set_option maxRecDepth 10000
set_option maxHeartbeats 16000000
namespace Go.Proofs.YtblgabpgafbfiaaDoor.M
open Go Go.Proofs

theorem and255 (n : Int) : 0 ≤ bits .and .i64 n 255 ∧ bits .and .i64 n 255 ≤ 255 := by
  unfold bits
  dsimp only
  rw [BitVec.toNat_and]
  have h3 : (BitVec.ofInt IntKind.i64.bits 255).toNat = 255 := by decide
  rw [h3]
  have := Nat.and_le_right (n := (BitVec.ofInt IntKind.i64.bits n).toNat) (m := 255)
  generalize (BitVec.ofInt IntKind.i64.bits n).toNat &&& 255 = x at this
  rw [wrap_i64 (by omega)]
  omega
theorem hpower (n0 : Int) {v : MV} {xs : List Int} {H : MH} (hv : Sl H v xs) (hI : InD xs) (holes p0 : Int) :
    Spec Tryd.prog 7 [i64 n0, v, u64 holes, i64 p0] H fun u H' => u = bl true ∧ H' = H := by
  have hlen22 := len22 hv
  have h7 := and7 n0
  have h8 := and255 p0
  refine Spec.scalar (enterS Tryd.func7 [.tmp 8] ?_)
  repeat' first | (with_reducible (show W _ _ _ _ _); with_reducible refine go2 ?_) | (with_reducible (show W _ _ _ _ _); with_reducible refine sg2 ?_ ?_ <;> intro _) | (with_reducible (show CallK _ _ _ _ _ _ _ _ _ _ _); with_reducible refine ce2 (head17_spec _) ?_)
  refine sc2 ?_ ?_ <;> intro hl
  · repeat' first | (with_reducible (show W _ _ _ _ _); with_reducible refine go2 ?_) | (with_reducible (show W _ _ _ _ _); with_reducible refine sg2 ?_ ?_ <;> intro _) | (with_reducible (show W _ _ _ _ _); with_reducible refine sc2 ?_ ?_ <;> intro _)
    all_goals trivial
  repeat' first | (with_reducible (show W _ _ _ _ _); with_reducible refine go2 ?_) | (with_reducible (show W _ _ _ _ _); with_reducible refine sg2 ?_ ?_ <;> intro _)
  generalize bits .and .i64 n0 7 = r at h7
  obtain ⟨r, rfl⟩ := Int.eq_ofNat_of_zero_le h7.1
  have hr7 : r ≤ 7 := by omega
  obtain ⟨N, hN⟩ : ∃ N, r * r = N := ⟨_, rfl⟩
  have hn0 : 0 ≤ (r : Int) ∧ (r : Int) ≤ 4096 := by omega
  have hNN : ((r : Int) * r).toNat = N := by rw [← hN]; exact_mod_cast Int.toNat_natCast (r * r)
  have hN49 : N ≤ 49 := by rw [← hN]; exact Nat.mul_le_mul hr7 hr7
  (with_reducible (show CallK _ _ _ _ _ _ _ _ _ _ _)); with_reducible refine cm2 (made_spec hn0 hv holes hNN) ?_
  have hE := made_ok hn0 xs holes N
  have hEI := made_in (n := (r : Int)) hI holes N
  generalize madeM (r : Int) xs holes N = E at hE hEI ⊢
  have hEl : E.length = N := by rw [hE.len, hNN]
  have ep : IntKind.i64.wrap (bits .and .i64 p0 255 - 128) = bits .and .i64 p0 255 - 128 := wrap_i64 (by omega)
  repeat' first | (with_reducible (show W _ _ _ _ _); with_reducible refine go2 ?_) | (with_reducible (show W _ _ _ _ _); with_reducible refine sg2 ?_ ?_ <;> intro _)
  obtain ⟨P, hP⟩ : ∃ P, bits .and .i64 p0 255 - 128 = P := ⟨_, rfl⟩
  have hPb : -200 ≤ P ∧ P ≤ 200 := by omega
  rw [hP]
  clear hP ep h8
  (with_reducible (show CallK _ _ _ _ _ _ _ _ _ _ _)); with_reducible refine cm2 (scale_mspec hE hEI P hEl hget_new') ?_
  repeat' first | (with_reducible (show W _ _ _ _ _); with_reducible refine go2 ?_) | (with_reducible (show W _ _ _ _ _); with_reducible refine sg2 ?_ ?_ <;> intro _) | (with_reducible (show CallK _ _ _ _ _ _ _ _ _ _ _); with_reducible refine ce2 (finite_mspec hE hEl hget_new') ?_)
  rename_i hfE
  refine sc2 ?_ ?_ <;> intro hfl
  · repeat' first | (with_reducible (show W _ _ _ _ _); with_reducible refine go2 ?_) | (with_reducible (show W _ _ _ _ _); with_reducible refine sg2 ?_ ?_ <;> intro _) | (with_reducible (show W _ _ _ _ _); with_reducible refine sc2 ?_ ?_ <;> intro _)
    all_goals trivial
  have hfE : finD E = true := by simpa using hfE
  have hfl : scaleG P E N = 0 := by first | simpa using hfl | omega
  have hF : ∀ x ∈ E, Fn x := fun x hx => ⟨hEI x hx, List.all_eq_true.1 hfE x hx⟩
  obtain ⟨hS, hSu, hSe⟩ := unit_scale hE hF hPb (by rw [hEl]; exact hfl)
  have hSl : (scaleD P E).length = N := by rw [scaleD_len, hEl]
  have hSok : MatOk (r : Int) (r : Int) (scaleD P E) := ⟨hE.r0, hE.r1, hE.c0, hE.c1, by rw [hSl, hNN]⟩
  have hSI : InD (scaleD P E) := fun x hx => (hS x hx).inu
  have hSf : finD (scaleD P E) = true := List.all_eq_true.2 fun x hx => (hS x hx).fin
  have hR1 := red_ok hE (by omega) hF
  have hR2 := red_ok hSok (by omega) hS
  have hRR : redM (r : Int) (scaleD P E) = redM (r : Int) E := by unfold redM; rw [hSu]
  have hsq := redM_ok hE hEI
  repeat' first | (with_reducible (show W _ _ _ _ _); with_reducible refine go2 ?_) | (with_reducible (show W _ _ _ _ _); with_reducible refine sg2 ?_ ?_ <;> intro _)
  (with_reducible (show CallK _ _ _ _ _ _ _ _ _ _ _)); with_reducible refine cm2 (reduce_ok hE hEI (by omega) hEl hget_new' hfE hR1) ?_
  repeat' first | (with_reducible (show W _ _ _ _ _); with_reducible refine go2 ?_) | (with_reducible (show W _ _ _ _ _); with_reducible refine sg2 ?_ ?_ <;> intro _)
  (with_reducible (show CallK _ _ _ _ _ _ _ _ _ _ _)); with_reducible refine cm2 (reduce_ok (rw := true) hSok hSI (by omega) hSl ?_ hSf hR2) ?_
  · exact hget_newL rfl
  rw [hRR]
  have hA := hsq.a
  have hB := hsq.c
  clear hsq hRR hR1 hR2 hSu
  generalize (redM (r : Int) E).2.1 = X at hA ⊢
  generalize (redM (r : Int) E).2.2 = Y at hB ⊢
  have hXl : X.length = N := by rw [hA.len, hNN]
  have hYl : Y.length = N := by rw [hB.len, hNN]
  have hEb : -1074 ≤ unitE (r : Int) (r : Int) E ∧ unitE (r : Int) (r : Int) E ≤ 1023 := by
    rcases unit_mval hE hF with ⟨e, _⟩ | ⟨_, _, _, e⟩
    · rw [e]; decide
    · exact e
  have eP : IntKind.i64.wrap (unitE (r : Int) (r : Int) E + P) = unitE (r : Int) (r : Int) E + P := wrap_i64 (by omega)
  repeat' first | (with_reducible (show W _ _ _ _ _); with_reducible refine go2 ?_) | (with_reducible (show W _ _ _ _ _); with_reducible refine sg2 ?_ ?_ <;> intro _)
  (with_reducible (show CallK _ _ _ _ _ _ _ _ _ _ _)); with_reducible refine cm2 (same_spec (rw := true) (rw' := true) hA ?_ ?_ hXl) ?_
  · exact hget_newL rfl
  · exact hget_newL rfl
  repeat' first | (with_reducible (show W _ _ _ _ _); with_reducible refine go2 ?_) | (with_reducible (show W _ _ _ _ _); with_reducible refine sg2 ?_ ?_ <;> intro _)
  (with_reducible (show CallK _ _ _ _ _ _ _ _ _ _ _)); with_reducible refine cm2 (same_spec (rw := true) (rw' := true) hB ?_ ?_ hYl) ?_
  · show hget _ (H.length + 5) = _
    exact hget_newL rfl
  · show hget _ (H.length + 9) = _
    exact hget_newL rfl
  repeat' first | (with_reducible (show W _ _ _ _ _); with_reducible refine go2 ?_) | (with_reducible (show W _ _ _ _ _); with_reducible refine sg2 ?_ ?_ <;> intro _)
  · rename_i hne
    have hz : ∀ x ∈ E, mg x = 0 := by
      rcases hSe with h | h
      · exfalso; simp [h] at hne
      · exact h
    have hzz : ∀ i k : Nat, (i : Int) < r → (k : Int) < r → InU (atM r r r E i k) ∧ kindM (atM r r r E i k) = 1 ∧ finiteM (atM r r r E i k) = true := fun i k hi hk => by
      have h1 := at_fn hE hF hi hk
      refine ⟨h1.inu, ?_, h1.fin⟩
      rw [← mg_zero h1.inu h1.fin, atM_in' hE hi hk]
      have hl := place_lt hE.r0 hE.c0 hi hk
      rw [← hE.len] at hl
      exact hz _ (getD_mem' hl)
    (with_reducible (show CallK _ _ _ _ _ _ _ _ _ _ _)); with_reducible refine cm2 (square_zero (rw := true) hE hEl ?_ hzz) ?_
    · exact hget_new'
    repeat' first | (with_reducible (show W _ _ _ _ _); with_reducible refine go2 ?_) | (with_reducible (show W _ _ _ _ _); with_reducible refine sg2 ?_ ?_ <;> intro _) | (with_reducible (show W _ _ _ _ _); with_reducible refine sc2 ?_ ?_ <;> intro _) | (with_reducible (show CallK _ _ _ _ _ _ _ _ _ _ _); with_reducible refine ce2 (sign_zero _) ?_)
    all_goals trivial
  all_goals trivial
end Go.Proofs.YtblgabpgafbfiaaDoor.M
