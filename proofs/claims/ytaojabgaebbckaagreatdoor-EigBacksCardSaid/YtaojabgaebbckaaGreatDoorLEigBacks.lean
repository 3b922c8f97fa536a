/- The law EigBacks, for every input: out of the small machine's theorem. No condition beyond the arguments' own ranges. -/
import Derived.Test.YtaojabgaebbckaaGreatDoorTie
import Derived.Test.YtaojabgaebbckaaGreatDoorCards
import Derived.LaidMore
import Derived.Stop.Joined
import Derived.SevenTiedAt
import Derived.Test.YtaojabgaebbckaaGreatDoorRows
import Derived.Test.YtaojabgaebbckaaGreatDoorC85
import Derived.Test.YtaojabgaebbckaaGreatDoorJ
import Derived.WalkKit
import Derived.ProofKit
import Derived.OpenShut
import Derived.ShutString
import Derived.ChangeOld
import Derived.Below
import Derived.SizedLaws
import Derived.Lib.SmallJoins
namespace Go.Proofs.YtaojabgaebbckaaGreatDoor.eigBacks
open Go.ChangeShapes Go.WideShapes Go.ChangeAt Go.RowKit
open Go.ChangeMaps (open_string shut_string)
set_option linter.unusedVariables false
set_option linter.unusedSimpArgs false
theorem own : ownKnob Tryz.prog.godebug = none := by kernel_rfl
theorem laidOut : laidOutB Tryz.prog = true := by kernel_rfl
abbrev laidL : List (String × DataW Unit) := [("math/bits.deBruijn32tab", Rows.laid_math_bits_deBruijn32tab), ("gimbal/eig.means", Rows.laid_gimbal_eig_means)]
theorem door_met (os : Os) (args : Array Value) : laidMetH Tryz.prog laidL ((World.doorLaid Tryz.prog 400 os).forCall (fun _ _ => 0) ⟨#[], args, []⟩).memory :=
  laidMetH_of_parts3 (fuel := 8) (laidMet_of_run' 8 (by kernel_rfl) (by kernel_rfl)) (by kernel_rfl) (by kernel_rfl)
set_option maxRecDepth 100000 in
theorem lifted (os : Os) (started : os.Started) (H : Type) (enc : TypeId × Value → H) :
    ReturnsInHanded {} Tryz.checked os 4 .any (fun w args => (Rows.eigBacksSpec.pre enc Tryz.prog Tryz.f4 Rows.eigBacksRow.domain false w args ∧ laidMetH Tryz.prog laidL w) ∧ sizedMet enc Tryz.prog Tryz.f4 (OpenSpec.ofChange Rows.eigBacksSpec) false w args) (Rows.eigBacksSpec.post enc Tryz.prog Tryz.f4 false true false false) := by
  refine returnsInHanded_of_change_and (C := Tryz.checked) (X := fun w _ => laidMetH Tryz.prog laidL w) (fun _ _ _ hh h => h.of_heap hh) own started (by kernel_rfl) Tryz.func4
    (ChangeSpec.witness_shaped (enc := enc) (C := Tryz.checked) (os := os) (X := fun w _ => laidMetH Tryz.prog laidL w) false (World.doorLaid Tryz.prog 400 os) #[.int .i64 0, .slice none 0 0, .int .u64 0, .agg #[.slice none 0 0, .slice none 0 0], .bool false] 8 rfl (World.shaped_of_RefB (by kernel_rfl) (by kernel_rfl)) (by kernel_rfl) (by kernel_rfl) (by kernel_rfl) (door_met os _)) ?_
  intro W base args ds gs before hval0 hW hcnd hsz0 hL _
  have hval : ∀ (j : Nat) t v, Tryz.f4.params[j]? = some t → args[j]? = some v → Value.okWide Tryz.prog W .any base t v := hval0
  have hW' := hW
  obtain ⟨p, q, hA0, hV, rfl, hfz, hnd⟩ := hW
  have hA : DataW.TrodAll enc Tryz.prog W 0 (fun _ => true) true Tryz.f4.params.toList args.toList ds p := hA0
  rw [Tryz.params4] at hA hval
  obtain ⟨v0, vs0, d0, ds0, p0, q0, hargs, rfl, rfl, h0, r0⟩ := trodAll_cons hA
  obtain ⟨v1, vs1, d1, ds1, p1, q1, rfl, rfl, rfl, h1, r1⟩ := trodAll_cons r0
  obtain ⟨v2, vs2, d2, ds2, p2, q2, rfl, rfl, rfl, h2, r2⟩ := trodAll_cons r1
  obtain ⟨v3, vs3, d3, ds3, p3, q3, rfl, rfl, rfl, h3, r3⟩ := trodAll_cons r2
  obtain ⟨v4, vs4, d4, ds4, p4, q4, rfl, rfl, rfl, h4, r4⟩ := trodAll_cons r3
  obtain ⟨rfl, rfl, rfl⟩ := trodAll_nil r4
  obtain rfl : args = #[v0, v1, v2, v3, v4] := by cases args; simp_all
  obtain ⟨rfl, rfl⟩ := trodVars_none hV
  obtain ⟨a0, rfl, rfl, rfl, w0⟩ := open_int Tryz.underlying3 (hval 0 3 v0 rfl rfl) h0
  have rg0 := M.wf_i64 w0
  obtain ⟨a1, len1, cap1, rfl⟩ := okWide_slice Tryz.underlying34 (hval 1 34 v1 rfl rfl)
  have k1 := h1
  have lt1 : ∀ x ∈ p1, x.block < W.heap.size := by obtain ⟨m, hm⟩ := k1; exact DataW.trod_lt m _ _ _ hm
  obtain ⟨z1, w1⟩ : ∃ zs, M.IsRow .u64 W a1 len1 cap1 zs := by
    obtain ⟨fuel, hf⟩ := h1
    rcases open_ints Tryz.underlying34 Tryz.underlying22 (by kernel_rfl) hf with ⟨hcs, _⟩ | ⟨x, l, c, zs, hcs, _, hl, hm, hz, _, hcell, hwz⟩
    · simp [Value.cells] at hcs
      obtain ⟨rfl, rfl, rfl⟩ := hcs
      exact ⟨[], .inl ⟨rfl, rfl, rfl, rfl⟩⟩
    · simp [Value.cells] at hcs
      obtain ⟨rfl, rfl, rfl⟩ := hcs
      exact ⟨zs, .inr ⟨_, rfl, hl, hm, by simpa using hz, hcell, hwz⟩⟩
  have rg1 : ∀ n ∈ z1.take len1, 0 ≤ n ∧ n < 18446744073709551616 := M.IsRow.wf w1
  obtain ⟨a2, rfl, rfl, rfl, w2⟩ := open_int Tryz.underlying22 (hval 2 22 v2 rfl rfl) h2
  have rg2 := M.wf_u64 w2
  have k3 := h3
  have lt3 : ∀ x ∈ p3, x.block < W.heap.size := by obtain ⟨m, hm⟩ := k3; exact DataW.trod_lt m _ _ _ hm
  obtain ⟨c3_0, c3_1, e3_0, e3_1, n3, rfl, rfl, rfl, t3_0, t3_1⟩ := Go.Joins.open_agg2 Tryz.underlying36 (by kernel_rfl) (by kernel_rfl) (hval 3 36 v3 rfl rfl) h3
  obtain ⟨a3_0, len3_0, cap3_0, z3_0, rfl, w3_0⟩ : ∃ a l c zs, c3_0 = .slice a l c ∧ M.IsRow .u64 W a l c zs := by
    rcases open_ints Tryz.underlying34 Tryz.underlying22 (by kernel_rfl) t3_0 with ⟨hcs, _⟩ | ⟨x, l, c, zs, hcs, _, hl, hm, hz, _, hcell, hwz⟩
    · simp at hcs
      exact ⟨none, 0, 0, [], hcs, .inl ⟨rfl, rfl, rfl, rfl⟩⟩
    · simp at hcs
      exact ⟨some x, l, c, zs, hcs, .inr ⟨_, rfl, hl, hm, by simpa using hz, hcell, hwz⟩⟩
  have rg3_0 : ∀ n ∈ z3_0.take len3_0, 0 ≤ n ∧ n < 18446744073709551616 := M.IsRow.wf w3_0
  obtain ⟨a3_1, len3_1, cap3_1, z3_1, rfl, w3_1⟩ : ∃ a l c zs, c3_1 = .slice a l c ∧ M.IsRow .u64 W a l c zs := by
    rcases open_ints Tryz.underlying34 Tryz.underlying22 (by kernel_rfl) t3_1 with ⟨hcs, _⟩ | ⟨x, l, c, zs, hcs, _, hl, hm, hz, _, hcell, hwz⟩
    · simp at hcs
      exact ⟨none, 0, 0, [], hcs, .inl ⟨rfl, rfl, rfl, rfl⟩⟩
    · simp at hcs
      exact ⟨some x, l, c, zs, hcs, .inr ⟨_, rfl, hl, hm, by simpa using hz, hcell, hwz⟩⟩
  have rg3_1 : ∀ n ∈ z3_1.take len3_1, 0 ≤ n ∧ n < 18446744073709551616 := M.IsRow.wf w3_1
  obtain ⟨a4, rfl, rfl, rfl⟩ := open_bool Tryz.underlying4 (hval 4 4 v4 rfl rfl) h4
  have hL0 := hL
  rw [MakeChecks.laidMetH_plain _ _ _ (by kernel_rfl)] at hL0
  have tb1 := Lib.tabIs_of_head (P := Tryz.prog) (W := W) (name := "math/bits.deBruijn32tab") (k := .u8) (zs := [0, 1, 28, 2, 29, 14, 24, 3, 30, 22, 20, 15, 25, 17, 4, 8, 31, 27, 13, 23, 21, 19, 16, 7, 26, 12, 18, 6, 11, 5, 10, 9]) (g := 1) (t := 204) (e := 5) (n := 32) (by kernel_rfl) (by kernel_rfl) Tryz.underlying204 Tryz.underlying5 (by kernel_rfl) (by kernel_rfl) hL0
  replace hL0 := hL0.tail
  have tb0 := Lib.tabIs_of_head (P := Tryz.prog) (W := W) (name := "gimbal/eig.means") (k := .i64) (zs := [1, 0, 0, 0, 2, 0, 3, 0, 4, 5]) (g := 0) (t := 116) (e := 3) (n := 10) (by kernel_rfl) (by kernel_rfl) Tryz.underlying116 Tryz.underlying3 (by kernel_rfl) (by kernel_rfl) hL0
  have htab := M.tabT_cell (w := W) (by
    intro x hx o v hv
    simp only [M.tabL, List.mem_cons, List.not_mem_nil, or_false] at hx
    rcases hx with rfl | rfl
    · exact M.tab_cell tb1 (by kernel_rfl) o v hv
    · exact M.tab_cell tb0 (by kernel_rfl) o v hv)
  clear hA0 hval0 hsz0
  have hr0 := M.Rel.empty W
  have ro0 := M.RO.nil
  obtain ⟨μ1, L1, u1, le1, hr1, ro1, c1, o1, s1⟩ := M.slArg hr0 ro0 w1
  obtain ⟨μ2, L2, u3_0, le2, hr2, ro2, c3_0, o3_0, s3_0⟩ := M.slArg hr1 ro1 w3_0
  replace c1 := ((M.ok_mono le2 _ o1).2).trans c1
  replace o1 := (M.ok_mono le2 _ o1).1
  replace s1 := s1.app L2
  obtain ⟨μ3, L3, u3_1, le3, hr3, ro3, c3_1, o3_1, s3_1⟩ := M.slArg hr2 ro2 w3_1
  replace c1 := ((M.ok_mono le3 _ o1).2).trans c1
  replace o1 := (M.ok_mono le3 _ o1).1
  replace s1 := s1.app L3
  replace c3_0 := ((M.ok_mono le3 _ o3_0).2).trans c3_0
  replace o3_0 := (M.ok_mono le3 _ o3_0).1
  replace s3_0 := s3_0.app L3
  have hoks : M.Oks μ3 [.lit (.int .i64 a0), u1, .lit (.int .u64 a2), .agg [u3_0, u3_1], .lit (.bool a4)] := by simp only [M.Oks]; exact ⟨(by simp [M.Ok, M.Oks]), o1, (by simp [M.Ok, M.Oks]), (by simp only [M.Ok, M.Oks]; exact ⟨o3_0, o3_1, trivial⟩), (by simp [M.Ok, M.Oks]), trivial⟩
  have hcall := M.calls_of_spec Tryz.func4 (by exact rfl) (by decide) (M.ebacks a0 s1 rg1 s3_0 rg3_0 s3_1 rg3_1 a2 a4) hr3 htab hoks ro3
  simp only [M.concs, M.conc, c1, c3_0, c3_1] at hcall
  refine hcall.mono fun e W' ⟨he, bel⟩ => ?_
  subst he
  exact ⟨_, rfl, _, _, _, [], _, [], hW', trodAll_mk1 (shut_bool Tryz.underlying4 _), (trodAll_cons_mk (shut_int Tryz.underlying3 w0) (trodAll_cons_mk (Below.trod laidOut (by kernel_rfl) (of_decide_eq_true (by kernel_rfl)) k1 bel lt1) (trodAll_cons_mk (shut_int Tryz.underlying22 w2) (trodAll_cons_mk (Below.trod laidOut (by kernel_rfl) (of_decide_eq_true (by kernel_rfl)) k3 bel lt3) (trodAll_cons_mk (shut_bool Tryz.underlying4 _) trodAll_mk0))))), rfl, bel.frame _, fun h => by cases h⟩
theorem over : Rows.eigBacksRow.holds Tryz.pinned (OpenSpec.ofChange Rows.eigBacksSpec) :=
  OpenClaim.holds_of_wide 4 Tryz.f4 rfl rfl rfl rfl rfl rfl rfl ⟨rfl, rfl, rfl, rfl, rfl⟩ rfl rfl rfl rfl rfl (by kernel_rfl) Tryz.func4 (by kernel_rfl)
    (of_decide_eq_true (by kernel_rfl)) (by unfold Func.isWrapper; first | (rw [if_pos (by decide +kernel)]; kernel_rfl) | (rw [if_neg (by decide +kernel)]; exact ⟨rfl, rfl⟩))
    (fun os started H enc _ => lifted os started H enc)
theorem proved : Rows.EigBacksCardSaid :=
  Claim7.holds_tied_plain_at .later [] [.data, .data] true (true, "6808c5bf391c0aed57a6bd22a6748ab19f06d2f76991d9662e594739002ad6c0") false
    over (fun _ h => by cases h) (by kernel_rfl) (fun _ h => by cases h) eigBacks_row_tie rfl ⟨rfl, rfl⟩ (by kernel_rfl) rfl
    (fun f fn hf hfn => by
      obtain rfl : f = 4 := Option.some.inj ((show Tryz.prog.funcNamed "gimbal/gimballaw24.EigBacks" = some 4 by kernel_rfl).symm.trans hf) |>.symm
      obtain rfl : fn = Tryz.f4 := (Option.some.inj (Tryz.func4.symm.trans hfn)).symm
      exact ⟨by kernel_rfl, fun j t ht => by
        rw [Tryz.params4] at ht
        have hm : t ∈ [3, 34, 22, 36, 4] := by simpa using Array.mem_of_getElem? ht
        have hall : ([3, 34, 22, 36, 4].all fun u => !Tryz.prog.wantsStandIn u) = true := by kernel_rfl
        exact (show Tryz.prog.wantsStandIn t = false by simpa using List.all_eq_true.1 hall t hm)⟩)
    (by kernel_rfl)
#print axioms proved
end Go.Proofs.YtaojabgaebbckaaGreatDoor.eigBacks
namespace Go.Proofs.YtaojabgaebbckaaGreatDoor
/-- The card, under a short name, for the claim. -/
theorem eigBacks_holds : Rows.EigBacksCardSaid := eigBacks.proved
end Go.Proofs.YtaojabgaebbckaaGreatDoor
