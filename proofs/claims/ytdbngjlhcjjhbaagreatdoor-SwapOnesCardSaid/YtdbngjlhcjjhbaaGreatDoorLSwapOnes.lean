/- The law SwapOnes, for every input: out of the small machine's theorem. No condition beyond the arguments' own ranges. -/
import Derived.Test.YtdbngjlhcjjhbaaGreatDoorTie
import Derived.Test.YtdbngjlhcjjhbaaGreatDoorCards
import Derived.LaidMore
import Derived.Stop.Joined
import Derived.SevenTiedAt
import Derived.Test.YtdbngjlhcjjhbaaGreatDoorJ2
import Derived.Deep.Grids
import Derived.Test.YtdbngjlhcjjhbaaGreatDoorRows
import Derived.Test.YtdbngjlhcjjhbaaGreatDoorC76
import Derived.Test.YtdbngjlhcjjhbaaGreatDoorJ
import Derived.WalkKit
import Derived.ProofKit
import Derived.OpenShut
import Derived.ShutString
import Derived.ChangeOld
import Derived.Below
import Derived.SizedLaws
import Derived.Lib.SmallJoins
namespace Go.Proofs.YtdbngjlhcjjhbaaGreatDoor.swapOnes
open Go.ChangeShapes Go.WideShapes Go.ChangeAt Go.RowKit
open Go.ChangeMaps (open_string shut_string)
set_option linter.unusedVariables false
set_option linter.unusedSimpArgs false
theorem own : ownKnob Tryz.prog.godebug = none := by kernel_rfl
theorem laidOut : laidOutB Tryz.prog = true := by kernel_rfl
abbrev laidL : List (String × DataW Unit) := [("math/bits.deBruijn32tab", Rows.laid_math_bits_deBruijn32tab)]
theorem door_met (os : Os) (args : Array Value) : laidMetH Tryz.prog laidL ((World.doorLaid Tryz.prog 400 os).forCall (fun _ _ => 0) ⟨#[], args, []⟩).memory :=
  laidMetH_of_parts3 (fuel := 8) (laidMet_of_run' 8 (by kernel_rfl) (by kernel_rfl)) (by kernel_rfl) (by kernel_rfl)
set_option maxRecDepth 100000 in
theorem lifted (os : Os) (started : os.Started) (H : Type) (enc : TypeId × Value → H) :
    ReturnsInHanded {} Tryz.checked os 4 .any (fun w args => (Rows.swapOnesSpec.pre enc Tryz.prog Tryz.f4 Rows.swapOnesRow.domain false w args ∧ laidMetH Tryz.prog laidL w) ∧ sizedMet enc Tryz.prog Tryz.f4 (OpenSpec.ofChange Rows.swapOnesSpec) false w args) (Rows.swapOnesSpec.post enc Tryz.prog Tryz.f4 false true false false) := by
  refine returnsInHanded_of_change_and (C := Tryz.checked) (X := fun w _ => laidMetH Tryz.prog laidL w) (fun _ _ _ hh h => h.of_heap hh) own started (by kernel_rfl) Tryz.func4
    (ChangeSpec.witness_shaped (enc := enc) (C := Tryz.checked) (os := os) (X := fun w _ => laidMetH Tryz.prog laidL w) false (World.doorLaid Tryz.prog 400 os) #[.int .i64 0, .slice none 0 0, .slice none 0 0] 8 rfl (World.shaped_of_RefB (by kernel_rfl) (by kernel_rfl)) (by kernel_rfl) (by kernel_rfl) (by kernel_rfl) (door_met os _)) ?_
  intro W base args ds gs before hval0 hW hcnd hsz0 hL _
  have hval : ∀ (j : Nat) t v, Tryz.f4.params[j]? = some t → args[j]? = some v → Value.okWide Tryz.prog W .any base t v := hval0
  have hW' := hW
  obtain ⟨p, q, hA0, hV, rfl, hfz, hnd⟩ := hW
  have hA : DataW.TrodAll enc Tryz.prog W 0 (fun _ => true) true Tryz.f4.params.toList args.toList ds p := hA0
  rw [Tryz.params4] at hA hval
  obtain ⟨v0, vs0, d0, ds0, p0, q0, hargs, rfl, rfl, h0, r0⟩ := trodAll_cons hA
  obtain ⟨v1, vs1, d1, ds1, p1, q1, rfl, rfl, rfl, h1, r1⟩ := trodAll_cons r0
  obtain ⟨v2, vs2, d2, ds2, p2, q2, rfl, rfl, rfl, h2, r2⟩ := trodAll_cons r1
  obtain ⟨rfl, rfl, rfl⟩ := trodAll_nil r2
  obtain rfl : args = #[v0, v1, v2] := by cases args; simp_all
  obtain ⟨rfl, rfl⟩ := trodVars_none hV
  obtain ⟨a0, rfl, rfl, rfl, w0⟩ := open_int Tryz.underlying3 (hval 0 3 v0 rfl rfl) h0
  have rg0 := M.wf_i64 w0
  obtain ⟨a1, len1, cap1, rfl⟩ := okWide_slice Tryz.underlying22 (hval 1 22 v1 rfl rfl)
  have k1 := h1
  have lt1 : ∀ x ∈ p1, x.block < W.heap.size := by obtain ⟨m, hm⟩ := k1; exact DataW.trod_lt m _ _ _ hm
  obtain ⟨z1, w1⟩ : ∃ zs, M.IsRow .u64 W a1 len1 cap1 zs := by
    obtain ⟨fuel, hf⟩ := h1
    rcases open_ints Tryz.underlying22 Tryz.underlying27 (by kernel_rfl) hf with ⟨hcs, _⟩ | ⟨x, l, c, zs, hcs, _, hl, hm, hz, _, hcell, hwz⟩
    · simp [Value.cells] at hcs
      obtain ⟨rfl, rfl, rfl⟩ := hcs
      exact ⟨[], .inl ⟨rfl, rfl, rfl, rfl⟩⟩
    · simp [Value.cells] at hcs
      obtain ⟨rfl, rfl, rfl⟩ := hcs
      exact ⟨zs, .inr ⟨_, rfl, hl, hm, by simpa using hz, hcell, hwz⟩⟩
  have rg1 : ∀ n ∈ z1.take len1, 0 ≤ n ∧ n < 18446744073709551616 := M.IsRow.wf w1
  obtain ⟨a2, len2, cap2, rfl⟩ := okWide_slice Tryz.underlying35 (hval 2 35 v2 rfl rfl)
  have k2 := h2
  have lt2 : ∀ x ∈ p2, x.block < W.heap.size := by obtain ⟨m, hm⟩ := k2; exact DataW.trod_lt m _ _ _ hm
  obtain ⟨z2, w2⟩ : ∃ zs, M.IsRowB W a2 len2 cap2 zs := by
    obtain ⟨fuel, hf⟩ := h2
    rcases Go.Deep.open_bools Tryz.underlying35 Tryz.underlying4 (by kernel_rfl) hf with ⟨hcs, _⟩ | ⟨x, l, c, B, hcs, _, hl, hm, _, hcell⟩
    · simp [Value.cells] at hcs
      obtain ⟨rfl, rfl, rfl⟩ := hcs
      exact ⟨[], .inl ⟨rfl, rfl, rfl, rfl⟩⟩
    · simp [Value.cells] at hcs
      obtain ⟨rfl, rfl, rfl⟩ := hcs
      exact ⟨_, M.IsRowB.of hl hm hcell⟩
  have hL0 := hL
  rw [MakeChecks.laidMetH_plain _ _ _ (by kernel_rfl)] at hL0
  have tb0 := Lib.tabIs_of_head (P := Tryz.prog) (W := W) (name := "math/bits.deBruijn32tab") (k := .u8) (zs := [0, 1, 28, 2, 29, 14, 24, 3, 30, 22, 20, 15, 25, 17, 4, 8, 31, 27, 13, 23, 21, 19, 16, 7, 26, 12, 18, 6, 11, 5, 10, 9]) (g := 0) (t := 166) (e := 5) (n := 32) (by kernel_rfl) (by kernel_rfl) Tryz.underlying166 Tryz.underlying5 (by kernel_rfl) (by kernel_rfl) hL0
  have htab := M.tabT_cell (w := W) (by
    intro x hx o v hv
    simp only [M.tabL, List.mem_cons, List.not_mem_nil, or_false] at hx
    subst hx
    exact M.tab_cell tb0 (by kernel_rfl) o v hv)
  clear hA0 hval0 hsz0
  have hr0 := M.Rel.empty W
  have ro0 := M.RO.nil
  obtain ⟨μ1, L1, u1, le1, hr1, ro1, c1, o1, s1⟩ := M.slArg hr0 ro0 w1
  obtain ⟨μ2, L2, u2, le2, hr2, ro2, c2, o2, s2⟩ := M.sbArg hr1 ro1 w2
  replace c1 := ((M.ok_mono le2 _ o1).2).trans c1
  replace o1 := (M.ok_mono le2 _ o1).1
  replace s1 := s1.app L2
  have hoks : M.Oks μ2 [.lit (.int .i64 a0), u1, u2] := by simp only [M.Oks]; exact ⟨(by simp [M.Ok, M.Oks]), o1, o2, trivial⟩
  have hcall := M.calls_of_spec Tryz.func4 (by exact rfl) (by decide) (M.wones a0 s1 rg1 s2) hr2 htab hoks ro2
  simp only [M.concs, M.conc, c1, c2] at hcall
  refine hcall.mono fun e W' ⟨he, bel⟩ => ?_
  subst he
  exact ⟨_, rfl, _, _, _, [], _, [], hW', trodAll_mk1 (shut_bool Tryz.underlying4 _), (trodAll_cons_mk (shut_int Tryz.underlying3 w0) (trodAll_cons_mk (Below.trod laidOut (by kernel_rfl) (of_decide_eq_true (by kernel_rfl)) k1 bel lt1) (trodAll_cons_mk (Below.trod laidOut (by kernel_rfl) (of_decide_eq_true (by kernel_rfl)) k2 bel lt2) trodAll_mk0))), rfl, bel.frame _, fun h => by cases h⟩
theorem over : Rows.swapOnesRow.holds Tryz.pinned (OpenSpec.ofChange Rows.swapOnesSpec) :=
  OpenClaim.holds_of_wide 4 Tryz.f4 rfl rfl rfl rfl rfl rfl rfl ⟨rfl, rfl, rfl, rfl, rfl⟩ rfl rfl rfl rfl rfl (by kernel_rfl) Tryz.func4 (by kernel_rfl)
    (of_decide_eq_true (by kernel_rfl)) (by unfold Func.isWrapper; first | (rw [if_pos (by decide +kernel)]; kernel_rfl) | (rw [if_neg (by decide +kernel)]; exact ⟨rfl, rfl⟩))
    (fun os started H enc _ => lifted os started H enc)
theorem proved : Rows.SwapOnesCardSaid :=
  Claim7.holds_tied_plain_at .later [] [.data] true (true, "665c14d8139a86b802fea57433782fb6eba70da9487007a58a1987c1140e8930") false
    over (fun _ h => by cases h) (by kernel_rfl) (fun _ h => by cases h) swapOnes_row_tie rfl ⟨rfl, rfl⟩ (by kernel_rfl) rfl
    (fun f fn hf hfn => by
      obtain rfl : f = 4 := Option.some.inj ((show Tryz.prog.funcNamed "gimbal/gimballaw22.SwapOnes" = some 4 by kernel_rfl).symm.trans hf) |>.symm
      obtain rfl : fn = Tryz.f4 := (Option.some.inj (Tryz.func4.symm.trans hfn)).symm
      exact ⟨by kernel_rfl, fun j t ht => by
        rw [Tryz.params4] at ht
        have hm : t ∈ [3, 22, 35] := by simpa using Array.mem_of_getElem? ht
        have hall : ([3, 22, 35].all fun u => !Tryz.prog.wantsStandIn u) = true := by kernel_rfl
        exact (show Tryz.prog.wantsStandIn t = false by simpa using List.all_eq_true.1 hall t hm)⟩)
    (by kernel_rfl)
#print axioms proved
end Go.Proofs.YtdbngjlhcjjhbaaGreatDoor.swapOnes
namespace Go.Proofs.YtdbngjlhcjjhbaaGreatDoor
/-- The card, under a short name, for the claim. -/
theorem swapOnes_holds : Rows.SwapOnesCardSaid := swapOnes.proved
end Go.Proofs.YtdbngjlhcjjhbaaGreatDoor
