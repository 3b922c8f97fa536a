/- plane.Givens. -/
import Derived.Test.YtdbngjlhcjjhbaaGreatDoorC60
import Derived.Test.YtdbngjlhcjjhbaaGreatDoorC48
import Derived.Test.YtdbngjlhcjjhbaaGreatDoorC12
set_option linter.unusedSimpArgs false
set_option linter.unusedVariables false
set_option pp.deepTerms false
set_option pp.maxSteps 1500
set_option maxRecDepth 10000
set_option maxHeartbeats 4000000
namespace Go.Proofs.YtdbngjlhcjjhbaaGreatDoor.M
open Go Go.Proofs

def givR (a b : Int) : Int := nrm2M (unitL [a, b] (powerM [a, b]).1)
def givM (a b : Int) : Int × Int := if kindM b = 1 then (4607182418800017408, 0) else
  ((divM ((unitL [a, b] (powerM [a, b]).1).getD 0 0) (givR a b)).1, (divM ((unitL [a, b] (powerM [a, b]).1).getD 1 0) (givR a b)).1)
theorem givens_spec {a b : Int} (ha : InU a) (hb : InU b) (fa : finiteM a = true) (fb : finiteM b = true) (H : MH) :
    Spec Tryz.prog 42 [u64 a, u64 b] H fun v H' => ∃ t : Int × Int, True ∧ v = .tup [.agg [u64 (givM a b).1, u64 (givM a b).2], u64 t.1, u8 t.2, i64 0] ∧ H' = H := by
  have hI : InD [a, b] := by
    intro x hx
    simp only [List.mem_cons, List.not_mem_nil, or_false] at hx
    rcases hx with rfl | rfl
    · exact ha
    · exact hb
  have hbs := bsV_two
  have hUl := unitL_len [a, b] (powerM [a, b]).1
  have hUi := unitL_in hI (powerM [a, b]).1
  obtain ⟨U, hU⟩ : ∃ U, unitL [a, b] (powerM [a, b]).1 = U := ⟨_, rfl⟩
  rw [hU] at hUl hUi
  obtain ⟨p, q, hpq⟩ : ∃ p q, U = [p, q] := by
    match U, hUl with
    | [p, q], _ => exact ⟨p, q, rfl⟩
  subst hpq
  have hp : InU p := hUi p (by simp)
  have hq : InU q := hUi q (by simp)
  have hsl1 : ∀ (x : Option MO) (L : MH), Sl (H ++ x :: some ⟨[u64 a, u64 b], true⟩ :: L) (.slice (H.length + 1) 0 2 2 1) [a, b] := fun x L => sl_of (xs := [a, b]) (hget_newL rfl) rfl
  have hsl2 : ∀ (x y : Option MO) (L : MH), Sl (H ++ x :: y :: some ⟨[u64 a, u64 b], true⟩ :: L) (.slice (H.length + 2) 0 2 2 1) [a, b] := fun x y L => sl_of (xs := [a, b]) (hget_newL rfl) rfl
  have hP := fun x L => power_spec (hsl1 x L) (by simp)
  have hUn : ∀ x y : Option MO, Spec Tryz.prog 53 [.slice (H.length + 2) 0 2 2 1, i64 (powerM [a, b]).1] (H ++ [x, y, some ⟨[u64 a, u64 b], true⟩]) fun u H' => ∃ c : Nat, 2 ≤ c ∧ u = .slice (H.length + 3) 0 2 c 1 ∧ H' = H ++ [x, y, some ⟨[u64 a, u64 b], true⟩, some ⟨[u64 p, u64 q], true⟩] := fun x y => by
    refine (vunit_spec (hsl2 x y []) hI (powerM [a, b]).1 ⟨by simp, by simp⟩).mono ?_
    rintro u H' ⟨c, h1, rfl, rfl⟩
    refine ⟨c, h1, ?_, ?_⟩
    · simp
    · rw [hU]; simp
  have hsl3 : ∀ (x y z : Option MO) (L : MH) (c : Nat), Sl (H ++ x :: y :: z :: some ⟨[u64 p, u64 q], true⟩ :: L) (.slice (H.length + 3) 0 2 c 1) [p, q] := fun x y z L c => sl_of (xs := [p, q]) (hget_newL rfl) rfl
  have hN : ∀ x y z L c, Spec Tryz.prog 54 [nilp, .slice (H.length + 3) 0 2 c 1] (H ++ x :: y :: z :: some ⟨[u64 p, u64 q], true⟩ :: L) fun u H' => u = u64 (givR a b) ∧ H' = H ++ x :: y :: z :: some ⟨[u64 p, u64 q], true⟩ :: L := fun x y z L c => by
    have := nrm2_spec (hsl3 x y z L c) hUi ⟨by simp, by simp⟩
    unfold givR
    rw [hU]; exact this
  have hR : InU (givR a b) := nrm2M_in _
  refine Spec.scalarE (G := fun _ : Int × Int => True) (r := fun t => .tup [.agg [u64 (givM a b).1, u64 (givM a b).2], u64 t.1, u8 t.2, i64 0]) (enterS Tryz.func42 [.cell 4 70, .tmp 5, .tmp 6, .tmp 7] ?_)
  repeat' first | (with_reducible (show W _ _ _ _ _); with_reducible refine go2 ?_) | (with_reducible (show W _ _ _ _ _); with_reducible refine sg2 ?_ ?_ <;> intro _) | (with_reducible (show W _ _ _ _ _); with_reducible refine sc2 ?_ ?_ <;> intro _) | (with_reducible (show CallK _ _ _ _ _ _ _ _ _ _ _); with_reducible refine ce2 (finite_spec _ _) ?_) | (with_reducible (show CallK _ _ _ _ _ _ _ _ _ _ _); with_reducible refine ce2 (kind_spec _ _) ?_) | (with_reducible (show CallK _ _ _ _ _ _ _ _ _ _ _); with_reducible refine ce2 (hP _ _) ?_) | (with_reducible (show W _ _ (.code (.region 9 _ true) :: _) _ _); with_reducible refine W_draw [(0, []), (1, []), (2, []), (3, []), (5, []), (6, []), (7, []), (8, []), (11, []), (4, [7, 11]), (9, [11]), (10, []), (12, [])] [7, 11] (by kernel_rfl) ?_)
  · exact ⟨(a, 0), by simp [givM, *]⟩
  rename_i hk
  with_reducible refine cx2 (hUn _ _) ?_
  rintro u' H' ⟨c, hc, rfl, rfl⟩
  have z0 : (0 : Int).toNat = 0 := _root_.id rfl
  have z1 : (1 : Int).toNat = 1 := _root_.id rfl
  have z2 : ((2 : Nat) : Int) = 2 := _root_.id rfl
  repeat' first | (with_reducible (show W _ _ _ _ _); with_reducible refine go2 ?_) | (with_reducible (show W _ _ _ _ _); with_reducible refine sg2 ?_ ?_ <;> intro _) | (with_reducible (show W _ _ _ _ _); with_reducible refine sc2 ?_ ?_ <;> intro _) | (with_reducible (show CallK _ _ _ _ _ _ _ _ _ _ _); with_reducible refine ce2 (hN _ _ _ _ _) ?_) | (with_reducible (show CallK _ _ _ _ _ _ _ _ _ _ _); with_reducible refine ce2 (scale_spec hR _ _) ?_) | (with_reducible (show W _ _ (.code (.region 9 _ true) :: _) _ _); with_reducible refine W_draw [(0, []), (1, []), (2, []), (3, []), (5, []), (6, []), (7, []), (8, []), (11, []), (4, [7, 11]), (9, [11]), (10, []), (12, [])] [7, 11] (by kernel_rfl) ?_)
  (with_reducible (show CallK _ _ _ _ _ _ _ _ _ _ _)); with_reducible refine cm2 (cdiv_spec (a := p) hp hR 0 (hget_newL rfl)) ?_
  repeat' first | (with_reducible (show W _ _ _ _ _); with_reducible refine go2 ?_) | (with_reducible (show W _ _ _ _ _); with_reducible refine sg2 ?_ ?_ <;> intro _) | (with_reducible (show W _ _ _ _ _); with_reducible refine sc2 ?_ ?_ <;> intro _) | (with_reducible (show W _ _ (.code (.region 9 _ true) :: _) _ _); with_reducible refine W_draw [(0, []), (1, []), (2, []), (3, []), (5, []), (6, []), (7, []), (8, []), (11, []), (4, [7, 11]), (9, [11]), (10, []), (12, [])] [7, 11] (by kernel_rfl) ?_)
  (with_reducible (show CallK _ _ _ _ _ _ _ _ _ _ _)); with_reducible refine cm2 (cdiv_spec (a := q) hq hR _ (hget_newL rfl)) ?_
  repeat' first | (with_reducible (show W _ _ _ _ _); with_reducible refine go2 ?_) | (with_reducible (show W _ _ _ _ _); with_reducible refine sg2 ?_ ?_ <;> intro _) | (with_reducible (show W _ _ _ _ _); with_reducible refine sc2 ?_ ?_ <;> intro _) | (with_reducible (show CallK _ _ _ _ _ _ _ _ _ _ _); with_reducible refine ce2 (scale_spec hR _ _) ?_) | (with_reducible (show W _ _ (.code (.region 9 _ true) :: _) _ _); with_reducible refine W_draw [(0, []), (1, []), (2, []), (3, []), (5, []), (6, []), (7, []), (8, []), (11, []), (4, [7, 11]), (9, [11]), (10, []), (12, [])] [7, 11] (by kernel_rfl) ?_)
  refine ⟨((scaleM (givR a b) (powerM [a, b]).1).1, (scaleM (givR a b) (powerM [a, b]).1).2), ?_⟩
  have e0 : (givM a b).1 = (divM p (givR a b)).1 := by unfold givM; rw [if_neg hk, hU]; rfl
  have e1 : (givM a b).2 = (divM q (givR a b)).1 := by unfold givM; rw [if_neg hk, hU]; rfl
  rw [e0, e1]
end Go.Proofs.YtdbngjlhcjjhbaaGreatDoor.M
