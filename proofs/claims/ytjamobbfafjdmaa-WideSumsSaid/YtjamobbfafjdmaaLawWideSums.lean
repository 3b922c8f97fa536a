-- Written by a program of this session (wip/myprint.py, a changed print) out of Lean's own print of the translation. Lean checks it.
import Derived.Test.YtjamobbfafjdmaaRows
import Derived.Test.YtjamobbfafjdmaaQWideSumsx6
import Derived.Test.YtjamobbfafjdmaaPureWideSums
import Derived.WalkKit
import Derived.ProofKit
import Derived.OpenShut
import Derived.ShutString
import Derived.ChangeOld
import Derived.Below
import Derived.SizedLaws
import Derived.Lib.SmallJoins
namespace Go.Proofs.Ytjamobbfafjdmaa.wideSums
open Go.ChangeShapes Go.WideShapes Go.ChangeAt Go.RowKit
open Go.ChangeMaps (open_string shut_string)
set_option linter.unusedVariables false
theorem own : ownKnob Try.prog.godebug = none := by kernel_rfl
set_option maxRecDepth 100000 in
theorem lifted (os : Os) (started : os.Started) (H : Type) (enc : TypeId × Value → H) :
    ReturnsInHanded {} Try.checked os 13 .any (Rows.wideSumsSpec.pre6 enc Try.prog Try.f13 Rows.wideSumsRow.domain false) (Rows.wideSumsSpec.post enc Try.prog Try.f13 false true false false) := by
  refine returnsInHanded_of_change_sized (C := Try.checked) own started (by kernel_rfl) Try.func13
    (ChangeSpec.witness6 (enc := enc) (C := Try.checked) false ⟨#[], #[.agg #[.int .u64 0, .int .u64 0], .agg #[.int .u64 0, .int .u64 0]], []⟩ 8 (by kernel_rfl) (by kernel_rfl) (by kernel_rfl) (by kernel_rfl)) ?_
  intro W base args ds gs before hval0 hW hcnd hsz0 _
  have hsz : (DataW.weightsEach Try.prog (Try.f13.params.toList ++ Rows.wideSumsSpec.plain.varTypes Try.prog) (ds ++ gs)).all (· ≤ reachBytes) = true := hsz0
  have hval : ∀ (j : Nat) t v, Try.f13.params[j]? = some t → args[j]? = some v → Value.okWide Try.prog W .any base t v := hval0
  have hW' := hW
  obtain ⟨p, q, hA0, hV, rfl, hfz, hnd⟩ := hW
  have hA : DataW.TrodAll enc Try.prog W 0 (fun _ => true) true Try.f13.params.toList args.toList ds p := hA0
  rw [Try.params13] at hA hval hsz
  obtain ⟨v0, vs0, d0, ds0, p0, q0, hargs, rfl, rfl, h0, r0⟩ := trodAll_cons hA
  obtain ⟨v1, vs1, d1, ds1, p1, q1, rfl, rfl, rfl, h1, r1⟩ := trodAll_cons r0
  obtain ⟨rfl, rfl, rfl⟩ := trodAll_nil r1
  obtain rfl : args = #[v0, v1] := by cases args; simp_all
  obtain ⟨rfl, rfl⟩ := trodVars_none hV
  obtain ⟨c0_0, c0_1, e0_0, e0_1, n0, rfl, rfl, rfl, t0_0, t0_1⟩ := Go.Joins.open_agg2 Try.underlying25 (by kernel_rfl) (by kernel_rfl) (hval 0 25 v0 rfl rfl) h0
  obtain ⟨a0_0, g0_0, rfl, w0_0⟩ := DataW.trod_int Try.underlying22 t0_0
  cases g0_0
  obtain ⟨a0_1, g0_1, rfl, w0_1⟩ := DataW.trod_int Try.underlying22 t0_1
  cases g0_1
  obtain ⟨c1_0, c1_1, e1_0, e1_1, n1, rfl, rfl, rfl, t1_0, t1_1⟩ := Go.Joins.open_agg2 Try.underlying25 (by kernel_rfl) (by kernel_rfl) (hval 1 25 v1 rfl rfl) h1
  obtain ⟨a1_0, g1_0, rfl, w1_0⟩ := DataW.trod_int Try.underlying22 t1_0
  cases g1_0
  obtain ⟨a1_1, g1_1, rfl, w1_1⟩ := DataW.trod_int Try.underlying22 t1_1
  cases g1_1
  clear hA0 hval0 hsz0 hsz
  refine (QWideSums.gimballaw02_WideSums.walk Pure.WideSums a0_0 a0_1 a1_0 a1_1 W w0_0 w0_1 w1_0 w1_1).mono fun e W' ⟨he, bel⟩ => ?_
  subst he
  exact ⟨_, rfl, _, _, _, [], _, [], hW', trodAll_mk1 (shut_bool Try.underlying4 _), (trodAll_cons_mk (Go.Joins.shut_agg2 Try.underlying25 (by kernel_rfl) (by kernel_rfl) (shut_int Try.underlying22 w0_0) (shut_int Try.underlying22 w0_1)) (trodAll_cons_mk (Go.Joins.shut_agg2 Try.underlying25 (by kernel_rfl) (by kernel_rfl) (shut_int Try.underlying22 w1_0) (shut_int Try.underlying22 w1_1)) trodAll_mk0)), rfl, bel.frame _, fun h => by cases h⟩
theorem over : Rows.wideSumsRow.holds Try.pinned (OpenSpec.ofChange Rows.wideSumsSpec) :=
  OpenClaim.holds_of_wide 13 Try.f13 rfl rfl rfl rfl rfl rfl rfl ⟨rfl, rfl, rfl, rfl, rfl⟩ rfl rfl rfl rfl rfl (by kernel_rfl) Try.func13 (by kernel_rfl)
    (of_decide_eq_true (by kernel_rfl)) (by unfold Func.isWrapper; first | (rw [if_pos (by decide +kernel)]; kernel_rfl) | (rw [if_neg (by decide +kernel)]; exact ⟨rfl, rfl⟩))
    (fun os started H enc _ => lifted os started H enc)
theorem proved : Rows.WideSumsSaid := over
#print axioms proved
end Go.Proofs.Ytjamobbfafjdmaa.wideSums
namespace Go.Proofs.Ytjamobbfafjdmaa
/-- The row, under a short name, for the claim. -/
theorem wideSums_holds : Rows.WideSumsSaid := wideSums.proved
end Go.Proofs.Ytjamobbfafjdmaa
