/- The law EigWants, for every input: out of the small machine's theorem. No condition beyond the arguments' own ranges. -/
import Derived.Test.YtaojabgaebbckaaGreatDoorTie
import Derived.Test.YtaojabgaebbckaaGreatDoorCards
import Derived.LaidMore
import Derived.Stop.Joined
import Derived.SevenTiedAt
import Derived.Test.YtaojabgaebbckaaGreatDoorRows
import Derived.Test.YtaojabgaebbckaaGreatDoorC65
import Derived.Test.YtaojabgaebbckaaGreatDoorJ
import Derived.WalkKit
import Derived.ProofKit
import Derived.OpenShut
import Derived.ShutString
import Derived.ChangeOld
import Derived.Below
import Derived.SizedLaws
import Derived.Lib.SmallJoins
namespace Go.Proofs.YtaojabgaebbckaaGreatDoor.eigWants
open Go.ChangeShapes Go.WideShapes Go.ChangeAt Go.RowKit
open Go.ChangeMaps (open_string shut_string)
set_option linter.unusedVariables false
set_option linter.unusedSimpArgs false
theorem own : ownKnob Tryz.prog.godebug = none := by kernel_rfl
theorem laidOut : laidOutB Tryz.prog = true := by kernel_rfl
abbrev laidL : List (String × DataW Unit) := [("math/bits.deBruijn32tab", Rows.laid_math_bits_deBruijn32tab), ("gimbal/eig.means", Rows.laid_gimbal_eig_means)]
theorem door_met (os : Os) (args : Array Value) : laidMetH Tryz.prog laidL ((World.doorLaid Tryz.prog 400 os).forCall (fun _ _ => 0) ⟨#[], args, []⟩).memory :=
  laidMetH_of_parts3 (fuel := 8) (laidMet_of_run' 8 (by kernel_rfl) (by kernel_rfl)) (by kernel_rfl) (by kernel_rfl)
set_option maxRecDepth 100000 in
theorem lifted (os : Os) (started : os.Started) (H : Type) (enc : TypeId × Value → H) :
    ReturnsInHanded {} Tryz.checked os 3 .any (fun w args => (Rows.eigWantsSpec.pre enc Tryz.prog Tryz.f3 Rows.eigWantsRow.domain false w args ∧ laidMetH Tryz.prog laidL w) ∧ sizedMet enc Tryz.prog Tryz.f3 (OpenSpec.ofChange Rows.eigWantsSpec) false w args) (Rows.eigWantsSpec.post enc Tryz.prog Tryz.f3 false true false false) := by
  refine returnsInHanded_of_change_and (C := Tryz.checked) (X := fun w _ => laidMetH Tryz.prog laidL w) (fun _ _ _ hh h => h.of_heap hh) own started (by kernel_rfl) Tryz.func3
    (ChangeSpec.witness_shaped (enc := enc) (C := Tryz.checked) (os := os) (X := fun w _ => laidMetH Tryz.prog laidL w) false (World.doorLaid Tryz.prog 400 os) #[.agg #[.int .i64 0, .int .u64 0], .agg #[.int .u64 0, .int .u64 0]] 8 rfl (World.shaped_of_RefB (by kernel_rfl) (by kernel_rfl)) (by kernel_rfl) (by kernel_rfl) (by kernel_rfl) (door_met os _)) ?_
  intro W base args ds gs before hval0 hW hcnd hsz0 hL _
  have hval : ∀ (j : Nat) t v, Tryz.f3.params[j]? = some t → args[j]? = some v → Value.okWide Tryz.prog W .any base t v := hval0
  have hW' := hW
  obtain ⟨p, q, hA0, hV, rfl, hfz, hnd⟩ := hW
  have hA : DataW.TrodAll enc Tryz.prog W 0 (fun _ => true) true Tryz.f3.params.toList args.toList ds p := hA0
  rw [Tryz.params3] at hA hval
  obtain ⟨v0, vs0, d0, ds0, p0, q0, hargs, rfl, rfl, h0, r0⟩ := trodAll_cons hA
  obtain ⟨v1, vs1, d1, ds1, p1, q1, rfl, rfl, rfl, h1, r1⟩ := trodAll_cons r0
  obtain ⟨rfl, rfl, rfl⟩ := trodAll_nil r1
  obtain rfl : args = #[v0, v1] := by cases args; simp_all
  obtain ⟨rfl, rfl⟩ := trodVars_none hV
  obtain ⟨c0_0, c0_1, e0_0, e0_1, n0, rfl, rfl, rfl, t0_0, t0_1⟩ := Go.Joins.open_agg2 Tryz.underlying24 (by kernel_rfl) (by kernel_rfl) (hval 0 24 v0 rfl rfl) h0
  obtain ⟨a0_0, g0_0, rfl, w0_0⟩ := DataW.trod_int Tryz.underlying3 t0_0
  cases g0_0
  have rg0_0 := M.wf_i64 w0_0
  obtain ⟨a0_1, g0_1, rfl, w0_1⟩ := DataW.trod_int Tryz.underlying22 t0_1
  cases g0_1
  have rg0_1 := M.wf_u64 w0_1
  obtain ⟨c1_0, c1_1, e1_0, e1_1, n1, rfl, rfl, rfl, t1_0, t1_1⟩ := Go.Joins.open_agg2 Tryz.underlying26 (by kernel_rfl) (by kernel_rfl) (hval 1 26 v1 rfl rfl) h1
  obtain ⟨a1_0, g1_0, rfl, w1_0⟩ := DataW.trod_int Tryz.underlying22 t1_0
  cases g1_0
  have rg1_0 := M.wf_u64 w1_0
  obtain ⟨a1_1, g1_1, rfl, w1_1⟩ := DataW.trod_int Tryz.underlying22 t1_1
  cases g1_1
  have rg1_1 := M.wf_u64 w1_1
  have hL0 := hL
  rw [MakeChecks.laidMetH_plain _ _ _ (by kernel_rfl)] at hL0
  have tb1 := Lib.tabIs_of_head (P := Tryz.prog) (W := W) (name := "math/bits.deBruijn32tab") (k := .u8) (zs := [0, 1, 28, 2, 29, 14, 24, 3, 30, 22, 20, 15, 25, 17, 4, 8, 31, 27, 13, 23, 21, 19, 16, 7, 26, 12, 18, 6, 11, 5, 10, 9]) (g := 1) (t := 204) (e := 5) (n := 32) (by kernel_rfl) (by kernel_rfl) Tryz.underlying204 Tryz.underlying5 (by kernel_rfl) (by kernel_rfl) hL0
  replace hL0 := hL0.tail
  have tb0 := Lib.tabIs_of_head (P := Tryz.prog) (W := W) (name := "gimbal/eig.means") (k := .i64) (zs := [1, 0, 0, 0, 2, 0, 3, 0, 4, 5]) (g := 0) (t := 116) (e := 3) (n := 10) (by kernel_rfl) (by kernel_rfl) Tryz.underlying116 Tryz.underlying3 (by kernel_rfl) (by kernel_rfl) hL0
  have htab := M.tabT_cell (w := W) (by
    intro x hx o v hv
    simp only [M.tabL, List.mem_cons, List.not_mem_nil, or_false] at hx
    rcases hx with rfl | rfl
    · exact M.tab_cell tb1 (by kernel_rfl) o v hv
    · exact M.tab_cell tb0 (by kernel_rfl) o v hv)
  clear hA0 hval0 hsz0
  have hr0 := M.Rel.empty W
  have ro0 := M.RO.nil
  have hoks : M.Oks (fun _ => none) [.agg [.lit (.int .i64 a0_0), .lit (.int .u64 a0_1)], .agg [.lit (.int .u64 a1_0), .lit (.int .u64 a1_1)]] := by simp only [M.Oks]; exact ⟨(by simp [M.Ok, M.Oks]), (by simp [M.Ok, M.Oks]), trivial⟩
  have hcall := M.calls_of_spec Tryz.func3 (by exact rfl) (by decide) (M.ewants a0_0 a0_1 a1_0 a1_1 rg1_0 rg1_1 _) hr0 htab hoks ro0
  simp only [M.concs, M.conc] at hcall
  refine hcall.mono fun e W' ⟨he, bel⟩ => ?_
  subst he
  exact ⟨_, rfl, _, _, _, [], _, [], hW', trodAll_mk1 (shut_bool Tryz.underlying4 _), (trodAll_cons_mk (Go.Joins.shut_agg2 Tryz.underlying24 (by kernel_rfl) (by kernel_rfl) (shut_int Tryz.underlying3 w0_0) (shut_int Tryz.underlying22 w0_1)) (trodAll_cons_mk (Go.Joins.shut_agg2 Tryz.underlying26 (by kernel_rfl) (by kernel_rfl) (shut_int Tryz.underlying22 w1_0) (shut_int Tryz.underlying22 w1_1)) trodAll_mk0)), rfl, bel.frame _, fun h => by cases h⟩
theorem over : Rows.eigWantsRow.holds Tryz.pinned (OpenSpec.ofChange Rows.eigWantsSpec) :=
  OpenClaim.holds_of_wide 3 Tryz.f3 rfl rfl rfl rfl rfl rfl rfl ⟨rfl, rfl, rfl, rfl, rfl⟩ rfl rfl rfl rfl rfl (by kernel_rfl) Tryz.func3 (by kernel_rfl)
    (of_decide_eq_true (by kernel_rfl)) (by unfold Func.isWrapper; first | (rw [if_pos (by decide +kernel)]; kernel_rfl) | (rw [if_neg (by decide +kernel)]; exact ⟨rfl, rfl⟩))
    (fun os started H enc _ => lifted os started H enc)
theorem proved : Rows.EigWantsCardSaid :=
  Claim7.holds_tied_plain_at .later [] [.data, .data] true (true, "6808c5bf391c0aed57a6bd22a6748ab19f06d2f76991d9662e594739002ad6c0") false
    over (fun _ h => by cases h) (by kernel_rfl) (fun _ h => by cases h) eigWants_row_tie rfl ⟨rfl, rfl⟩ (by kernel_rfl) rfl
    (fun f fn hf hfn => by
      obtain rfl : f = 3 := Option.some.inj ((show Tryz.prog.funcNamed "gimbal/gimballaw24.EigWants" = some 3 by kernel_rfl).symm.trans hf) |>.symm
      obtain rfl : fn = Tryz.f3 := (Option.some.inj (Tryz.func3.symm.trans hfn)).symm
      exact ⟨by kernel_rfl, fun j t ht => by
        rw [Tryz.params3] at ht
        have hm : t ∈ [24, 26] := by simpa using Array.mem_of_getElem? ht
        have hall : ([24, 26].all fun u => !Tryz.prog.wantsStandIn u) = true := by kernel_rfl
        exact (show Tryz.prog.wantsStandIn t = false by simpa using List.all_eq_true.1 hall t hm)⟩)
    (by kernel_rfl)
#print axioms proved
end Go.Proofs.YtaojabgaebbckaaGreatDoor.eigWants
namespace Go.Proofs.YtaojabgaebbckaaGreatDoor
/-- The card, under a short name, for the claim. -/
theorem eigWants_holds : Rows.EigWantsCardSaid := eigWants.proved
end Go.Proofs.YtaojabgaebbckaaGreatDoor
