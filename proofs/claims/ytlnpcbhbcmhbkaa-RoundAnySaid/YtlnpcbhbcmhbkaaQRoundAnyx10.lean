-- Written by a program of this session (wip/myprint.py, a changed print) out of Lean's own print of the translation. Lean checks it.
import Derived.Test.YtlnpcbhbcmhbkaaQRoundAnyx0
import Derived.Test.YtlnpcbhbcmhbkaaQRoundAnyx2
import Derived.Test.YtlnpcbhbcmhbkaaQRoundAnyx5
import Derived.Test.YtlnpcbhbcmhbkaaQRoundAnyx6
import Derived.Test.YtlnpcbhbcmhbkaaQRoundAnyx7
import Derived.Test.YtlnpcbhbcmhbkaaQRoundAnyx9
namespace Go.Proofs.Ytlnpcbhbcmhbkaa.QRoundAny
open Go.RowKit Go.Proofs.YtlnpcbhbcmhbkaaW.PrintWords Go.Proofs.YtlnpcbhbcmhbkaaW.PrintLast Go.Proofs.YtlnpcbhbcmhbkaaW.PrintMore Go.Proofs.Ytlnpcbhbcmhbkaa.UX
attribute [local go_sem] max2_int min2_int max_two min_two max_three min_three max_four min_four   -- for this text's walks alone
set_option linter.unusedVariables false
set_option linter.unusedSimpArgs false

/-! ### gimballaw03_RoundAny: function 8 -/
mutual
def gimballaw03_RoundAny.j0 : Nat → Bool → Int → Bool → Int → Bool → Int → Int → Option (Bool)
  | 0, _, _, _, _, _, _, _ => none
  | k + 1, x0, x2, x3, x9, x27, x334000, x334001 => if x27 = true then ((round_Round.f k x0 x334000 x334001 x2 x3).bind fun bt335 => ((wide_Wide_Zero.f x334000 x334001).bind fun t337 => (if t337 = true then (gimballaw03_RoundAny.j1 k x0 x9 bt335.1 bt335.2 (!x3) x334000 x334001) else (gimballaw03_RoundAny.j1 k x0 x9 bt335.1 bt335.2 false x334000 x334001)))) else ((round_Round.f k x0 x334000 x334001 x2 x3).bind fun bt345 => ((gimballaw03_list.f k x334000 x334001).bind fun t347 => (if x3 = true then ((gimbalref02_Up.f k t347 200).bind fun t350 => ((gimbalref03_Round.f k x0 t350 (wrap64 (x9 - 200)) true).bind fun bt353 => ((wide_Wide_Zero.f x334000 x334001).bind fun t356 => (if t356 = true then ((word_Abs.f bt345.1).bind fun t357 => (if t357 = 0 then ((word_Neg.f bt345.1).bind fun t358 => (if (t358 == x0) = true then (some (bt345.2 == 3)) else (some false))) else (some false))) else (if bt345.1 = bt353.1 then (some ((wrap64 (bt345.2)) == bt353.2)) else (some false)))))) else ((gimbalref03_Round.f k x0 t347 x9 false).bind fun bt359 => (if bt345.1 = bt359.1 then (some ((wrap64 (bt345.2)) == bt359.2)) else (some false))))))
def gimballaw03_RoundAny.j1 : Nat → Bool → Int → Int → Int → Bool → Int → Int → Option (Bool)
  | 0, _, _, _, _, _, _, _ => none
  | k + 1, x0, x9, x10, x11, x36, x334000, x334001 => if x36 = true then ((word_Abs.f x10).bind fun t338 => (if t338 = 0 then ((word_Neg.f x10).bind fun t339 => (if (t339 == x0) = true then (some (x11 == 0)) else (some false))) else (some false))) else (if x9 < 0 then (gimballaw03_RoundAny.j2 k x0 x10 x11 true) else ((wide_Wide_Zero.f x334000 x334001).bind fun t340 => (gimballaw03_RoundAny.j2 k x0 x10 x11 t340)))
def gimballaw03_RoundAny.j2 : Nat → Bool → Int → Int → Bool → Option (Bool)
  | 0, _, _, _, _ => none
  | k + 1, x0, x10, x11, x56 => if x56 = true then ((word_Abs.f x10).bind fun t341 => (if t341 = 0 then ((word_Neg.f x10).bind fun t342 => (if (t342 == x0) = true then (some (x11 == 3)) else (some false))) else (some false))) else ((word_Abs.f x10).bind fun t343 => (if t343 = 9218868437227405312 then ((word_Neg.f x10).bind fun t344 => (if (t344 == x0) = true then (some (x11 == 5)) else (some false))) else (some false)))
end
def gimballaw03_RoundAny.f (k : Nat) (a0 : Bool) (a1_0 : Int) (a1_1 : Int) (a2 : Int) (a3 : Bool) : Option (Bool) := (gimballaw03_head.f k).bind fun t334 => (if t334 = true then (if (mn (mx a2 (-100000)) 100000) < (-1500) then (gimballaw03_RoundAny.j0 k a0 a2 a3 (mn (mx a2 (-100000)) 100000) true a1_0 a1_1) else (gimballaw03_RoundAny.j0 k a0 a2 a3 (mn (mx a2 (-100000)) 100000) (decide ((mn (mx a2 (-100000)) 100000) > 1500)) a1_0 a1_1)) else (some false))
theorem gimballaw03_RoundAny.mono_l : ∀ k, (∀ y0 y1 y2 y3 y4 y5 y6, LeO (gimballaw03_RoundAny.j0 k y0 y1 y2 y3 y4 y5 y6) (gimballaw03_RoundAny.j0 (k + 1) y0 y1 y2 y3 y4 y5 y6)) ∧ (∀ y0 y1 y2 y3 y4 y5 y6, LeO (gimballaw03_RoundAny.j1 k y0 y1 y2 y3 y4 y5 y6) (gimballaw03_RoundAny.j1 (k + 1) y0 y1 y2 y3 y4 y5 y6)) ∧ (∀ y0 y1 y2 y3, LeO (gimballaw03_RoundAny.j2 k y0 y1 y2 y3) (gimballaw03_RoundAny.j2 (k + 1) y0 y1 y2 y3))
  | 0 => ⟨fun _ _ _ _ _ _ _ r h => by simp [gimballaw03_RoundAny.j0] at h, fun _ _ _ _ _ _ _ r h => by simp [gimballaw03_RoundAny.j1] at h, fun _ _ _ _ r h => by simp [gimballaw03_RoundAny.j2] at h⟩
  | k + 1 => by
    obtain ⟨ih0, ih1, ih2⟩ := gimballaw03_RoundAny.mono_l k
    refine ⟨?_, ?_, ?_⟩
    · intro y0 y1 y2 y3 y4 y5 y6
      unfold gimballaw03_RoundAny.j0
      repeat' first
      | (with_reducible exact ih0 _ _ _ _ _ _ _)
      | (with_reducible exact ih1 _ _ _ _ _ _ _)
      | (with_reducible exact ih2 _ _ _ _)
      | (with_reducible exact gimballaw03_head.mono _)
      | (with_reducible exact gimballaw03_list.mono _ _ _)
      | (with_reducible exact gimbalref02_Up.mono _ _ _)
      | (with_reducible exact gimbalref03_Round.mono _ _ _ _ _)
      | (with_reducible exact round_Round.mono _ _ _ _ _ _)
      | (with_reducible exact LeO.refl _)
      | (with_reducible exact LeO.none _)
      | (with_reducible refine LeO.ite ?_ ?_)
      | (with_reducible refine LeO.bind ?_ (fun _ => ?_))
      | exact ih0 _ _ _ _ _ _ _
      | exact ih1 _ _ _ _ _ _ _
      | exact ih2 _ _ _ _
      | exact gimballaw03_head.mono _
      | exact gimballaw03_list.mono _ _ _
      | exact gimbalref02_Up.mono _ _ _
      | exact gimbalref03_Round.mono _ _ _ _ _
      | exact round_Round.mono _ _ _ _ _ _
      | exact LeO.none _
      | refine LeO.ite ?_ ?_
      | refine LeO.bind ?_ (fun _ => ?_)
    · intro y0 y1 y2 y3 y4 y5 y6
      unfold gimballaw03_RoundAny.j1
      repeat' first
      | (with_reducible exact ih0 _ _ _ _ _ _ _)
      | (with_reducible exact ih1 _ _ _ _ _ _ _)
      | (with_reducible exact ih2 _ _ _ _)
      | (with_reducible exact gimballaw03_head.mono _)
      | (with_reducible exact gimballaw03_list.mono _ _ _)
      | (with_reducible exact gimbalref02_Up.mono _ _ _)
      | (with_reducible exact gimbalref03_Round.mono _ _ _ _ _)
      | (with_reducible exact round_Round.mono _ _ _ _ _ _)
      | (with_reducible exact LeO.refl _)
      | (with_reducible exact LeO.none _)
      | (with_reducible refine LeO.ite ?_ ?_)
      | (with_reducible refine LeO.bind ?_ (fun _ => ?_))
      | exact ih0 _ _ _ _ _ _ _
      | exact ih1 _ _ _ _ _ _ _
      | exact ih2 _ _ _ _
      | exact gimballaw03_head.mono _
      | exact gimballaw03_list.mono _ _ _
      | exact gimbalref02_Up.mono _ _ _
      | exact gimbalref03_Round.mono _ _ _ _ _
      | exact round_Round.mono _ _ _ _ _ _
      | exact LeO.none _
      | refine LeO.ite ?_ ?_
      | refine LeO.bind ?_ (fun _ => ?_)
    · intro y0 y1 y2 y3
      unfold gimballaw03_RoundAny.j2
      repeat' first
      | (with_reducible exact ih0 _ _ _ _ _ _ _)
      | (with_reducible exact ih1 _ _ _ _ _ _ _)
      | (with_reducible exact ih2 _ _ _ _)
      | (with_reducible exact gimballaw03_head.mono _)
      | (with_reducible exact gimballaw03_list.mono _ _ _)
      | (with_reducible exact gimbalref02_Up.mono _ _ _)
      | (with_reducible exact gimbalref03_Round.mono _ _ _ _ _)
      | (with_reducible exact round_Round.mono _ _ _ _ _ _)
      | (with_reducible exact LeO.refl _)
      | (with_reducible exact LeO.none _)
      | (with_reducible refine LeO.ite ?_ ?_)
      | (with_reducible refine LeO.bind ?_ (fun _ => ?_))
      | exact ih0 _ _ _ _ _ _ _
      | exact ih1 _ _ _ _ _ _ _
      | exact ih2 _ _ _ _
      | exact gimballaw03_head.mono _
      | exact gimballaw03_list.mono _ _ _
      | exact gimbalref02_Up.mono _ _ _
      | exact gimbalref03_Round.mono _ _ _ _ _
      | exact round_Round.mono _ _ _ _ _ _
      | exact LeO.none _
      | refine LeO.ite ?_ ?_
      | refine LeO.bind ?_ (fun _ => ?_)
theorem gimballaw03_RoundAny.mono : ∀ a0 a1 a2 a3 a4 k, LeO (gimballaw03_RoundAny.f k a0 a1 a2 a3 a4) (gimballaw03_RoundAny.f (k + 1) a0 a1 a2 a3 a4) := by
  intro a0 a1 a2 a3 a4 k
  obtain ⟨ih0, ih1, ih2⟩ := gimballaw03_RoundAny.mono_l k
  unfold gimballaw03_RoundAny.f
  repeat' first
      | (with_reducible exact ih0 _ _ _ _ _ _ _)
      | (with_reducible exact ih1 _ _ _ _ _ _ _)
      | (with_reducible exact ih2 _ _ _ _)
      | (with_reducible exact gimballaw03_head.mono _)
      | (with_reducible exact gimballaw03_list.mono _ _ _)
      | (with_reducible exact gimbalref02_Up.mono _ _ _)
      | (with_reducible exact gimbalref03_Round.mono _ _ _ _ _)
      | (with_reducible exact round_Round.mono _ _ _ _ _ _)
      | (with_reducible exact LeO.refl _)
      | (with_reducible exact LeO.none _)
      | (with_reducible refine LeO.ite ?_ ?_)
      | (with_reducible refine LeO.bind ?_ (fun _ => ?_))
      | exact ih0 _ _ _ _ _ _ _
      | exact ih1 _ _ _ _ _ _ _
      | exact ih2 _ _ _ _
      | exact gimballaw03_head.mono _
      | exact gimballaw03_list.mono _ _ _
      | exact gimbalref02_Up.mono _ _ _
      | exact gimbalref03_Round.mono _ _ _ _ _
      | exact round_Round.mono _ _ _ _ _ _
      | exact LeO.none _
      | refine LeO.ite ?_ ?_
      | refine LeO.bind ?_ (fun _ => ?_)
set_option maxHeartbeats 8000000 in
set_option maxRecDepth 100000 in
theorem gimballaw03_RoundAny.calls (k : Nat) (a0 : Bool) (a1_0 : Int) (a1_1 : Int) (a2 : Int) (a3 : Bool) (r : Bool) (w : World) (h : gimballaw03_RoundAny.f k a0 a1_0 a1_1 a2 a3 = some r) :
    Calls Try.prog 8 #[.bool a0, .agg #[.int .u64 a1_0, .int .u64 a1_1], .int .i64 a2, .bool a3] w fun e w' => e = .returned (.bool r) ∧ Below w.heap.size w w' := by
  have hu42 := Try.underlying42
  have hu46 := Try.underlying46
  have HB := Aside0.mk (Below.refl w.heap.size w)
  have H : ((gimballaw03_head.f k).bind fun t334 => (if t334 = true then (if (mn (mx a2 (-100000)) 100000) < (-1500) then (gimballaw03_RoundAny.j0 k a0 a2 a3 (mn (mx a2 (-100000)) 100000) true a1_0 a1_1) else (gimballaw03_RoundAny.j0 k a0 a2 a3 (mn (mx a2 (-100000)) 100000) (decide ((mn (mx a2 (-100000)) 100000) > 1500)) a1_0 a1_1)) else (some false))) = some r := h
  clear h
  replace H := Option.bind_eq_some_iff.mp H
  obtain ⟨t334, A50, H⟩ := H
  replace H : (if t334 = true then (if (mn (mx a2 (-100000)) 100000) < (-1500) then (gimballaw03_RoundAny.j0 k a0 a2 a3 (mn (mx a2 (-100000)) 100000) true a1_0 a1_1) else (gimballaw03_RoundAny.j0 k a0 a2 a3 (mn (mx a2 (-100000)) 100000) (decide ((mn (mx a2 (-100000)) 100000) > 1500)) a1_0 a1_1)) else (some false)) = some r := H
  have A5 := Aside0.mk A50
  clear A50
  by_cases c6 : t334 = true
  · subst c6
    have H1 : (if (mn (mx a2 (-100000)) 100000) < (-1500) then (gimballaw03_RoundAny.j0 k a0 a2 a3 (mn (mx a2 (-100000)) 100000) true a1_0 a1_1) else (gimballaw03_RoundAny.j0 k a0 a2 a3 (mn (mx a2 (-100000)) 100000) (decide ((mn (mx a2 (-100000)) 100000) > 1500)) a1_0 a1_1)) = some r := by rw [if_pos rfl] at H; exact H
    clear H
    have H := H1
    clear H1
    obtain ⟨ji7, hji7⟩ : ∃ j_ : Int, (mx a2 (-100000)) = j_ := ⟨_, rfl⟩
    replace H : (if (mn (ji7) 100000) < (-1500) then (gimballaw03_RoundAny.j0 k a0 a2 a3 (mn (ji7) 100000) true a1_0 a1_1) else (gimballaw03_RoundAny.j0 k a0 a2 a3 (mn (ji7) 100000) (decide ((mn (ji7) 100000) > 1500)) a1_0 a1_1)) = some r := by first | (rw [hji7] at H; exact H) | (simp only [hji7] at H ⊢; exact H)
    (try rw [hji7] at A5)
    have hji7_ : (if a2 < (-100000) then (-100000) else a2) = ji7 := hji7
    obtain ⟨ji8, hji8⟩ : ∃ j_ : Int, (mn (ji7) 100000) = j_ := ⟨_, rfl⟩
    replace H : (if (ji8) < (-1500) then (gimballaw03_RoundAny.j0 k a0 a2 a3 ji8 true a1_0 a1_1) else (gimballaw03_RoundAny.j0 k a0 a2 a3 ji8 (decide ((ji8) > 1500)) a1_0 a1_1)) = some r := by first | (rw [hji8] at H; exact H) | (simp only [hji8] at H ⊢; exact H)
    (try rw [hji8] at A5)
    have hji8_ : (if 100000 < (ji7) then 100000 else (ji7)) = ji8 := hji8
    have HC9 := Aside0.mk H
    clear H
    go_enter Try.func8, Try.ntmps8
    go_upto_region 4 with (first | ((with_reducible refine gate_dst (N := 5) rfl ?_); refine box_event ?hg (N := 5) ?hd (cs := #[.int .u64 a1_0, .int .u64 a1_1]) (t := 42) ?hr ?_; (case hd => rfl); (case hg => rfl); (case hr => first | (go_simp; done) | (go_simp; rfl)); intro gb333 hg w10 hbox hb; have n0_ := Aside0.mk (below_step (by repeat (first | (with_reducible first | exact HB.out | apply below_alloc | apply pw_below_drewN | apply below_drew1) | exact HB.out)) hb); have n1_ := Aside0.mk (hbox); have n2_ := Aside0.mk ((by rw [hg]; exact (below_size (by repeat (first | (with_reducible first | exact HB.out | apply below_alloc | apply pw_below_drewN | apply below_drew1) | exact HB.out))) : w.heap.size ≤ gb333)); have n3_ := Aside0.mk ((by rw [hg]; exact (below_size (by repeat (first | (with_reducible first | exact HB.out | apply below_alloc | apply pw_below_drewN | apply below_drew1) | exact HB.out))) : w.heap.size ≤ gb333)); clear HB; have HB := n0_; have BK333 := n1_; have GW333 := n2_; have GE333 := n3_; clear n0_ n1_ n2_ n3_; clear hb hbox hg) | ((with_reducible refine gate_callee (f := 30) rfl ?_); refine goesL_ (some 17) rfl rfl Try.func30 (by kernel_rfl) rfl #[] rfl (by (try simp only [List.map_toArray, List.map_cons, List.map_nil]); first | done | rfl | (simp only [List.length_drop, List.length_take]; rfl)) ?_; (with_reducible refine (gimballaw03_head.calls k  true _ A5.out).mono ?_); rintro e w11 ⟨rfl, hb⟩; refine ⟨_, rfl, ?_⟩; have n0_ := Aside0.mk (blk_below (g := gb333) (o := .cells #[.int .u64 a1_0, .int .u64 a1_1] 42 (0, 0)) (by (with_reducible repeat (first | refine blk_drewN ?_ _ | refine blk_drew ?_ | refine blk_alloc ?_ _)); exact BK333.out) hb); have n1_ := Aside0.mk (below_step (by repeat (first | (with_reducible first | exact HB.out | apply below_alloc | apply pw_below_drewN | apply below_drew1 | refine below_set ?_ GE333.out) | exact HB.out)) hb); clear BK333; clear HB; have BK333 := n0_; have HB := n1_; clear n0_ n1_; (try clear hb); (try clear hb2); (try clear hk); (try clear hi)))
    (try simp only [Act.put, List.setIfInBounds_toArray, List.set_cons_zero, List.set_cons_succ])
    go_cut [27] (fun v27 wc => ∃ (kq : Nat) (x27_8 : Bool), v27 = .bool x27_8 ∧ Aside0 (gimballaw03_RoundAny.j0 kq a0 a2 a3 ji8 x27_8 a1_0 a1_1 = some r) ∧ Aside0 (kq ≤ k) ∧ Aside0 (wc.heap[gb333]? = some (.cells #[.int .u64 a1_0, .int .u64 a1_1] 42 (0, 0))) ∧ Aside0 (Below w.heap.size w wc))
    case first =>
      have H := HC9.out
      clear HC9
      by_cases c12 : (ji8) < (-1500)
      · rw [if_pos c12] at H
        have c12b0 : decide ((ji8) < (-1500)) = true := decide_eq_true c12
        clear c12
        (first | rw [c12b0] | (simp only [i64_w, i32_w]; rw [c12b0]) | skip)
        have H' := Aside0.mk H
        clear H
        go_wp2
        go_meet
        case rel => exact ⟨_, (true), (by first | rfl | (simp; done) | (simp [*]; done)), H', ⟨by first | omega | exact Nat.le_refl _⟩, ⟨by (with_reducible repeat (first | refine blk_drewN ?_ _ | refine blk_drew ?_ | refine blk_alloc ?_ _)); exact BK333.out⟩, ⟨by repeat (first | (with_reducible first | exact HB.out | apply below_alloc | apply pw_below_drewN | apply below_drew1 | refine below_set ?_ GE333.out) | exact HB.out)⟩⟩
      · rw [if_neg c12] at H
        have c12b0 : decide ((ji8) < (-1500)) = false := decide_eq_false c12
        clear c12
        (first | rw [c12b0] | (simp only [i64_w, i32_w]; rw [c12b0]) | skip)
        have H' := Aside0.mk H
        clear H
        go_wp2
        go_meet
        case rel => exact ⟨_, (decide ((ji8) > 1500)), (by first | rfl | (simp; done) | (simp only [← hji8] <;> (first | rfl | simp)) | (simp [*]; done)), H', ⟨by first | omega | exact Nat.le_refl _⟩, ⟨by (with_reducible repeat (first | refine blk_drewN ?_ _ | refine blk_drew ?_ | refine blk_alloc ?_ _)); exact BK333.out⟩, ⟨by repeat (first | (with_reducible first | exact HB.out | apply below_alloc | apply pw_below_drewN | apply below_drew1 | refine below_set ?_ GE333.out) | exact HB.out)⟩⟩
    case rest =>
      clear HC9
      try clear c1
      try clear p2
      try clear c3
      try clear c6
      try clear c8
      try clear c12
      try clear c12b0
      obtain ⟨kq, x27_8, rfl, HA, HJ8, BK333, HB⟩ := hcut
      cases kq with
      | zero => exact absurd HA.out (by simp [gimballaw03_RoundAny.j0])
      | succ kj8 =>
        have H := HA.out
        clear HA
        simp only [gimballaw03_RoundAny.j0] at H
        by_cases c13 : x27_8 = true
        · subst c13
          have H1 : ((round_Round.f kj8 a0 a1_0 a1_1 a2 a3).bind fun bt335 => ((wide_Wide_Zero.f a1_0 a1_1).bind fun t337 => (if t337 = true then (gimballaw03_RoundAny.j1 kj8 a0 ji8 bt335.1 bt335.2 (!a3) a1_0 a1_1) else (gimballaw03_RoundAny.j1 kj8 a0 ji8 bt335.1 bt335.2 false a1_0 a1_1)))) = some r := by rw [if_pos rfl] at H; exact H
          clear H
          have H := H1
          clear H1
          replace H := Option.bind_eq_some_iff.mp H
          obtain ⟨⟨t335, t336⟩, A140, H⟩ := H
          replace H : ((wide_Wide_Zero.f a1_0 a1_1).bind fun t337 => (if t337 = true then (gimballaw03_RoundAny.j1 kj8 a0 ji8 t335 t336 (!a3) a1_0 a1_1) else (gimballaw03_RoundAny.j1 kj8 a0 ji8 t335 t336 false a1_0 a1_1))) = some r := H
          have A14 := Aside0.mk A140
          clear A140
          have HC15 := Aside0.mk H
          clear H
          have hcz16_0 : wc.cell? ⟨gb333, 0, none⟩ = some (.int .u64 a1_0) := (blk_cell BK333.out 0).trans rfl
          have hcz16_1 : wc.cell? ⟨gb333, 1, none⟩ = some (.int .u64 a1_1) := (blk_cell BK333.out 1).trans rfl
          have hfz16_0 := blk_frozen BK333.out 0
          have hfz16_1 := blk_frozen BK333.out 1
          go_upto_region 6 with (first | ((with_reducible refine gate_callee (f := 31) rfl ?_); refine goesL_ (some 33) rfl rfl Try.func31 (by kernel_rfl) rfl #[.bool a0, .agg #[.int .u64 a1_0, .int .u64 a1_1], .int .i64 a2, .bool a3] rfl (by (try simp only [List.map_toArray, List.map_cons, List.map_nil]); first | done | rfl | (simp only [List.length_drop, List.length_take]; rfl)) ?_; (with_reducible refine (round_Round.calls kj8 a0 a1_0 a1_1 a2 a3 t335 t336 _ A14.out).mono ?_); rintro e w17 ⟨rfl, hb⟩; refine ⟨_, rfl, ?_⟩; have n0_ := Aside0.mk (blk_below (g := gb333) (o := .cells #[.int .u64 a1_0, .int .u64 a1_1] 42 (0, 0)) (by (with_reducible repeat (first | refine blk_drewN ?_ _ | refine blk_drew ?_ | refine blk_alloc ?_ _)); exact BK333.out) hb); have n1_ := Aside0.mk (below_step (by repeat (first | (with_reducible first | exact HB.out | apply below_alloc | apply pw_below_drewN | apply below_drew1 | refine below_set ?_ GE333.out) | exact HB.out)) hb); clear BK333; clear HB; have BK333 := n0_; have HB := n1_; clear n0_ n1_; (try clear hb); (try clear hb2); (try clear hk); (try clear hi)))
          (try simp only [Act.put, List.setIfInBounds_toArray, List.set_cons_zero, List.set_cons_succ])
          go_cut [36] (fun v36 wc => ∃ (kq : Nat) (x36_14 : Bool), v36 = .bool x36_14 ∧ Aside0 (gimballaw03_RoundAny.j1 kq a0 ji8 t335 t336 x36_14 a1_0 a1_1 = some r) ∧ Aside0 (kq ≤ kj8) ∧ Aside0 (wc.heap[gb333]? = some (.cells #[.int .u64 a1_0, .int .u64 a1_1] 42 (0, 0))) ∧ Aside0 (Below w.heap.size w wc))
          case first =>
            have H := HC15.out
            clear HC15
            replace H := Option.bind_eq_some_iff.mp H
            obtain ⟨t337, A180, H⟩ := H
            replace H : (if t337 = true then (gimballaw03_RoundAny.j1 kj8 a0 ji8 t335 t336 (!a3) a1_0 a1_1) else (gimballaw03_RoundAny.j1 kj8 a0 ji8 t335 t336 false a1_0 a1_1)) = some r := H
            have A18 := Aside0.mk A180
            clear A180
            by_cases c19 : t337 = true
            · subst c19
              have H1 : (gimballaw03_RoundAny.j1 kj8 a0 ji8 t335 t336 (!a3) a1_0 a1_1) = some r := by rw [if_pos rfl] at H; exact H
              clear H
              have H := H1
              clear H1
              have H' := Aside0.mk H
              clear H
              have hcz20_0 : w17.cell? ⟨gb333, 0, none⟩ = some (.int .u64 a1_0) := (blk_cell BK333.out 0).trans rfl
              have hcz20_1 : w17.cell? ⟨gb333, 1, none⟩ = some (.int .u64 a1_1) := (blk_cell BK333.out 1).trans rfl
              have hfz20_0 := blk_frozen BK333.out 0
              have hfz20_1 := blk_frozen BK333.out 1
              go_wp2_with (first | ((with_reducible refine gate_callee (f := 32) rfl ?_); refine goesL_ (some 38) rfl rfl Try.func32 (by kernel_rfl) rfl #[.agg #[.int .u64 a1_0, .int .u64 a1_1]] rfl (by (try simp only [List.map_toArray, List.map_cons, List.map_nil]); first | done | rfl | (simp only [List.length_drop, List.length_take]; rfl)) ?_; (with_reducible refine (wide_Wide_Zero.calls a1_0 a1_1 true _ A18.out).mono ?_); rintro e w21 ⟨rfl, hb⟩; refine ⟨_, rfl, ?_⟩; have n0_ := Aside0.mk (blk_below (g := gb333) (o := .cells #[.int .u64 a1_0, .int .u64 a1_1] 42 (0, 0)) (by (with_reducible repeat (first | refine blk_drewN ?_ _ | refine blk_drew ?_ | refine blk_alloc ?_ _)); exact BK333.out) hb); have n1_ := Aside0.mk (below_step (by repeat (first | (with_reducible first | exact HB.out | apply below_alloc | apply pw_below_drewN | apply below_drew1 | refine below_set ?_ GE333.out) | exact HB.out)) hb); clear BK333; clear HB; have BK333 := n0_; have HB := n1_; clear n0_ n1_; (try clear hb); (try clear hb2); (try clear hk); (try clear hi)))
              go_meet
              case rel => exact ⟨_, (!a3), (by first | rfl | (simp; done) | (simp [*]; done)), H', ⟨by have := HJ8.out; first | omega | exact Nat.le_refl _⟩, ⟨by (with_reducible repeat (first | refine blk_drewN ?_ _ | refine blk_drew ?_ | refine blk_alloc ?_ _)); exact BK333.out⟩, ⟨by repeat (first | (with_reducible first | exact HB.out | apply below_alloc | apply pw_below_drewN | apply below_drew1 | refine below_set ?_ GE333.out) | exact HB.out)⟩⟩
            · replace c19 := Bool.eq_false_iff.mpr c19
              subst c19
              have H1 : (gimballaw03_RoundAny.j1 kj8 a0 ji8 t335 t336 false a1_0 a1_1) = some r := by rw [if_neg (show ¬ (false = true) by decide)] at H; exact H
              clear H
              have H := H1
              clear H1
              have H' := Aside0.mk H
              clear H
              have hcz22_0 : w17.cell? ⟨gb333, 0, none⟩ = some (.int .u64 a1_0) := (blk_cell BK333.out 0).trans rfl
              have hcz22_1 : w17.cell? ⟨gb333, 1, none⟩ = some (.int .u64 a1_1) := (blk_cell BK333.out 1).trans rfl
              have hfz22_0 := blk_frozen BK333.out 0
              have hfz22_1 := blk_frozen BK333.out 1
              go_wp2_with (first | ((with_reducible refine gate_callee (f := 32) rfl ?_); refine goesL_ (some 38) rfl rfl Try.func32 (by kernel_rfl) rfl #[.agg #[.int .u64 a1_0, .int .u64 a1_1]] rfl (by (try simp only [List.map_toArray, List.map_cons, List.map_nil]); first | done | rfl | (simp only [List.length_drop, List.length_take]; rfl)) ?_; (with_reducible refine (wide_Wide_Zero.calls a1_0 a1_1 false _ A18.out).mono ?_); rintro e w23 ⟨rfl, hb⟩; refine ⟨_, rfl, ?_⟩; have n0_ := Aside0.mk (blk_below (g := gb333) (o := .cells #[.int .u64 a1_0, .int .u64 a1_1] 42 (0, 0)) (by (with_reducible repeat (first | refine blk_drewN ?_ _ | refine blk_drew ?_ | refine blk_alloc ?_ _)); exact BK333.out) hb); have n1_ := Aside0.mk (below_step (by repeat (first | (with_reducible first | exact HB.out | apply below_alloc | apply pw_below_drewN | apply below_drew1 | refine below_set ?_ GE333.out) | exact HB.out)) hb); clear BK333; clear HB; have BK333 := n0_; have HB := n1_; clear n0_ n1_; (try clear hb); (try clear hb2); (try clear hk); (try clear hi)))
              go_meet
              case rel => exact ⟨_, (false), (by first | rfl | (simp; done) | (simp [*]; done)), H', ⟨by have := HJ8.out; first | omega | exact Nat.le_refl _⟩, ⟨by (with_reducible repeat (first | refine blk_drewN ?_ _ | refine blk_drew ?_ | refine blk_alloc ?_ _)); exact BK333.out⟩, ⟨by repeat (first | (with_reducible first | exact HB.out | apply below_alloc | apply pw_below_drewN | apply below_drew1 | refine below_set ?_ GE333.out) | exact HB.out)⟩⟩
          case rest =>
            clear HC15
            try clear c1
            try clear p2
            try clear c3
            try clear c6
            try clear c8
            try clear c12
            try clear c12b0
            try clear c13
            try clear c19
            try clear hcz16_0
            try clear hcz16_1
            try clear hcz20_0
            try clear hcz20_1
            try clear hcz22_0
            try clear hcz22_1
            try clear hfz16_0
            try clear hfz16_1
            try clear hfz20_0
            try clear hfz20_1
            try clear hfz22_0
            try clear hfz22_1
            try clear p2
            obtain ⟨kq, x36_14, rfl, HA, HJ14, BK333, HB⟩ := hcut
            cases kq with
            | zero => exact absurd HA.out (by simp [gimballaw03_RoundAny.j1])
            | succ kj14 =>
              have H := HA.out
              clear HA
              simp only [gimballaw03_RoundAny.j1] at H
              by_cases c24 : x36_14 = true
              · subst c24
                have H1 : ((word_Abs.f t335).bind fun t338 => (if t338 = 0 then ((word_Neg.f t335).bind fun t339 => (if (t339 == a0) = true then (some (t336 == 0)) else (some false))) else (some false))) = some r := by rw [if_pos rfl] at H; exact H
                clear H
                have H := H1
                clear H1
                replace H := Option.bind_eq_some_iff.mp H
                obtain ⟨t338, A250, H⟩ := H
                replace H : (if t338 = 0 then ((word_Neg.f t335).bind fun t339 => (if (t339 == a0) = true then (some (t336 == 0)) else (some false))) else (some false)) = some r := H
                have A25 := Aside0.mk A250
                clear A250
                by_cases c26 : t338 = 0
                · rw [if_pos c26] at H
                  have c26b0 : (t338 == 0) = true := beq_iff_eq.mpr c26
                  have c26b1 : (t338 != 0) = false := bne_eq_false_iff_eq.mpr c26
                  clear c26
                  replace H := Option.bind_eq_some_iff.mp H
                  obtain ⟨t339, A270, H⟩ := H
                  replace H : (if (t339 == a0) = true then (some (t336 == 0)) else (some false)) = some r := H
                  have A27 := Aside0.mk A270
                  clear A270
                  by_cases c28 : (t339 == a0) = true
                  · rw [if_pos c28] at H
                    have c28b0 : (t339 == a0) = true := c28
                    (try (have c28b1 : decide (t339 = a0) = true := by simpa using c28))
                    (try (have c28b2 : (t339 == a0) = true := by simpa using c28))
                    clear c28
                    obtain rfl := Option.some.inj H
                    go_wp2_with (first | ((with_reducible refine gate_callee (f := 17) rfl ?_); refine goesL_ (some 44) rfl rfl Try.func17 (by kernel_rfl) rfl #[.int .u64 t335] rfl (by (try simp only [List.map_toArray, List.map_cons, List.map_nil]); first | done | rfl | (simp only [List.length_drop, List.length_take]; rfl)) ?_; (with_reducible refine (word_Abs.calls t335 t338 _ A25.out).mono ?_); rintro e w' ⟨rfl, ⟨nd, rfl⟩⟩; refine ⟨_, rfl, ?_⟩) | (go_at_call 16; (with_reducible refine (word_Neg.calls t335 t339 _ A27.out).mono ?_); rintro e w' ⟨rfl, ⟨nd, rfl⟩⟩))
                    go_ret
                    exact ⟨by first | rfl | (simp [errW_none, errW_some] <;> rfl) | (simp only [← hji7, ← hji8]; first | rfl | (simp [errW_none, errW_some] <;> rfl)) | (simp [*, errW_none, errW_some] <;> rfl), by repeat (first | (with_reducible first | exact HB.out | apply below_alloc | apply pw_below_drewN | apply below_drew1 | refine below_set ?_ GE333.out) | exact HB.out)⟩
                  · rw [if_neg c28] at H
                    have c28b0 : (t339 == a0) = false := by simpa using c28
                    (try (have c28b1 : decide (t339 = a0) = false := by simpa using c28))
                    (try (have c28b2 : (t339 == a0) = false := by simpa using c28))
                    (try (have c28b3 : ¬ (t339 = a0) := by simpa using c28))
                    clear c28
                    obtain rfl := Option.some.inj H
                    go_wp2_with (first | ((with_reducible refine gate_callee (f := 17) rfl ?_); refine goesL_ (some 44) rfl rfl Try.func17 (by kernel_rfl) rfl #[.int .u64 t335] rfl (by (try simp only [List.map_toArray, List.map_cons, List.map_nil]); first | done | rfl | (simp only [List.length_drop, List.length_take]; rfl)) ?_; (with_reducible refine (word_Abs.calls t335 t338 _ A25.out).mono ?_); rintro e w' ⟨rfl, ⟨nd, rfl⟩⟩; refine ⟨_, rfl, ?_⟩) | (go_at_call 16; (with_reducible refine (word_Neg.calls t335 t339 _ A27.out).mono ?_); rintro e w' ⟨rfl, ⟨nd, rfl⟩⟩))
                    go_ret
                    exact ⟨by first | rfl | (simp [errW_none, errW_some] <;> rfl) | (simp only [← hji7, ← hji8]; first | rfl | (simp [errW_none, errW_some] <;> rfl)) | (simp [*, errW_none, errW_some] <;> rfl), by repeat (first | (with_reducible first | exact HB.out | apply below_alloc | apply pw_below_drewN | apply below_drew1 | refine below_set ?_ GE333.out) | exact HB.out)⟩
                · rw [if_neg c26] at H
                  have c26b0 : (t338 == 0) = false := beq_eq_false_iff_ne.mpr c26
                  have c26b1 : (t338 != 0) = true := bne_iff_ne.mpr c26
                  obtain rfl := Option.some.inj H
                  go_wp2_with (first | ((with_reducible refine gate_callee (f := 17) rfl ?_); refine goesL_ (some 44) rfl rfl Try.func17 (by kernel_rfl) rfl #[.int .u64 t335] rfl (by (try simp only [List.map_toArray, List.map_cons, List.map_nil]); first | done | rfl | (simp only [List.length_drop, List.length_take]; rfl)) ?_; (with_reducible refine (word_Abs.calls t335 t338 _ A25.out).mono ?_); rintro e w' ⟨rfl, ⟨nd, rfl⟩⟩; refine ⟨_, rfl, ?_⟩))
                  go_ret
                  exact ⟨by first | rfl | (simp [errW_none, errW_some] <;> rfl) | (simp only [← hji7, ← hji8]; first | rfl | (simp [errW_none, errW_some] <;> rfl)) | (simp [*, errW_none, errW_some] <;> rfl), by repeat (first | (with_reducible first | exact HB.out | apply below_alloc | apply pw_below_drewN | apply below_drew1 | refine below_set ?_ GE333.out) | exact HB.out)⟩
              · replace c24 := Bool.eq_false_iff.mpr c24
                subst c24
                have H1 : (if ji8 < 0 then (gimballaw03_RoundAny.j2 kj14 a0 t335 t336 true) else ((wide_Wide_Zero.f a1_0 a1_1).bind fun t340 => (gimballaw03_RoundAny.j2 kj14 a0 t335 t336 t340))) = some r := by rw [if_neg (show ¬ (false = true) by decide)] at H; exact H
                clear H
                have H := H1
                clear H1
                have HC29 := Aside0.mk H
                clear H
                go_upto_region 8 with (fail)
                go_cut [56] (fun v56 wc => ∃ (kq : Nat) (x56_28 : Bool), v56 = .bool x56_28 ∧ Aside0 (gimballaw03_RoundAny.j2 kq a0 t335 t336 x56_28 = some r) ∧ Aside0 (kq ≤ kj14) ∧ Aside0 (wc.heap[gb333]? = some (.cells #[.int .u64 a1_0, .int .u64 a1_1] 42 (0, 0))) ∧ Aside0 (Below w.heap.size w wc))
                case first =>
                  have H := HC29.out
                  clear HC29
                  by_cases c30 : ji8 < 0
                  · rw [if_pos c30] at H
                    have c30b0 : decide (ji8 < 0) = true := decide_eq_true c30
                    clear c30
                    (first | rw [c30b0] | (simp only [i64_w, i32_w]; rw [c30b0]) | skip)
                    have H' := Aside0.mk H
                    clear H
                    go_wp2
                    go_meet
                    case rel => exact ⟨_, (true), (by first | rfl | (simp; done) | (simp [*]; done)), H', ⟨by have := HJ8.out; have := HJ14.out; first | omega | exact Nat.le_refl _⟩, ⟨by (with_reducible repeat (first | refine blk_drewN ?_ _ | refine blk_drew ?_ | refine blk_alloc ?_ _)); exact BK333.out⟩, ⟨by repeat (first | (with_reducible first | exact HB.out | apply below_alloc | apply pw_below_drewN | apply below_drew1 | refine below_set ?_ GE333.out) | exact HB.out)⟩⟩
                  · rw [if_neg c30] at H
                    have c30b0 : decide (ji8 < 0) = false := decide_eq_false c30
                    clear c30
                    (first | rw [c30b0] | (simp only [i64_w, i32_w]; rw [c30b0]) | skip)
                    replace H := Option.bind_eq_some_iff.mp H
                    obtain ⟨t340, A310, H⟩ := H
                    replace H : (gimballaw03_RoundAny.j2 kj14 a0 t335 t336 t340) = some r := H
                    have A31 := Aside0.mk A310
                    clear A310
                    have H' := Aside0.mk H
                    clear H
                    have hcz32_0 : wc.cell? ⟨gb333, 0, none⟩ = some (.int .u64 a1_0) := (blk_cell BK333.out 0).trans rfl
                    have hcz32_1 : wc.cell? ⟨gb333, 1, none⟩ = some (.int .u64 a1_1) := (blk_cell BK333.out 1).trans rfl
                    have hfz32_0 := blk_frozen BK333.out 0
                    have hfz32_1 := blk_frozen BK333.out 1
                    go_wp2_with (first | (go_at_call 32; (with_reducible refine (wide_Wide_Zero.calls a1_0 a1_1 t340 _ A31.out).mono ?_); rintro e w33 ⟨rfl, hb⟩; have n0_ := Aside0.mk (blk_below (g := gb333) (o := .cells #[.int .u64 a1_0, .int .u64 a1_1] 42 (0, 0)) (by (with_reducible repeat (first | refine blk_drewN ?_ _ | refine blk_drew ?_ | refine blk_alloc ?_ _)); exact BK333.out) hb); have n1_ := Aside0.mk (below_step (by repeat (first | (with_reducible first | exact HB.out | apply below_alloc | apply pw_below_drewN | apply below_drew1 | refine below_set ?_ GE333.out) | exact HB.out)) hb); clear BK333; clear HB; have BK333 := n0_; have HB := n1_; clear n0_ n1_; (try clear hb); (try clear hb2); (try clear hk); (try clear hi)))
                    go_meet
                    case rel => exact ⟨_, (t340), (by first | rfl | (simp; done) | (simp [*]; done)), H', ⟨by have := HJ8.out; have := HJ14.out; first | omega | exact Nat.le_refl _⟩, ⟨by (with_reducible repeat (first | refine blk_drewN ?_ _ | refine blk_drew ?_ | refine blk_alloc ?_ _)); exact BK333.out⟩, ⟨by repeat (first | (with_reducible first | exact HB.out | apply below_alloc | apply pw_below_drewN | apply below_drew1 | refine below_set ?_ GE333.out) | exact HB.out)⟩⟩
                case rest =>
                  clear HC29
                  try clear c1
                  try clear c2
                  try clear p2
                  try clear c3
                  try clear c6
                  try clear c8
                  try clear c12
                  try clear c12b0
                  try clear c13
                  try clear c17
                  try clear c19
                  try clear c24
                  try clear c26
                  try clear c26b0
                  try clear c26b1
                  try clear c28
                  try clear c28b0
                  try clear c28b1
                  try clear c28b2
                  try clear c30
                  try clear c30b0
                  try clear c31
                  try clear c32
                  try clear hcz16_0
                  try clear hcz16_1
                  try clear hcz20_0
                  try clear hcz20_1
                  try clear hcz22_0
                  try clear hcz22_1
                  try clear hcz32_0
                  try clear hcz32_1
                  try clear hfz16_0
                  try clear hfz16_1
                  try clear hfz20_0
                  try clear hfz20_1
                  try clear hfz22_0
                  try clear hfz22_1
                  try clear hfz32_0
                  try clear hfz32_1
                  try clear p2
                  obtain ⟨kq, x56_28, rfl, HA, HJ28, BK333, HB⟩ := hcut
                  cases kq with
                  | zero => exact absurd HA.out (by simp [gimballaw03_RoundAny.j2])
                  | succ kj28 =>
                    have H := HA.out
                    clear HA
                    simp only [gimballaw03_RoundAny.j2] at H
                    by_cases c34 : x56_28 = true
                    · subst c34
                      have H1 : ((word_Abs.f t335).bind fun t341 => (if t341 = 0 then ((word_Neg.f t335).bind fun t342 => (if (t342 == a0) = true then (some (t336 == 3)) else (some false))) else (some false))) = some r := by rw [if_pos rfl] at H; exact H
                      clear H
                      have H := H1
                      clear H1
                      replace H := Option.bind_eq_some_iff.mp H
                      obtain ⟨t341, A350, H⟩ := H
                      replace H : (if t341 = 0 then ((word_Neg.f t335).bind fun t342 => (if (t342 == a0) = true then (some (t336 == 3)) else (some false))) else (some false)) = some r := H
                      have A35 := Aside0.mk A350
                      clear A350
                      by_cases c36 : t341 = 0
                      · rw [if_pos c36] at H
                        have c36b0 : (t341 == 0) = true := beq_iff_eq.mpr c36
                        have c36b1 : (t341 != 0) = false := bne_eq_false_iff_eq.mpr c36
                        clear c36
                        replace H := Option.bind_eq_some_iff.mp H
                        obtain ⟨t342, A370, H⟩ := H
                        replace H : (if (t342 == a0) = true then (some (t336 == 3)) else (some false)) = some r := H
                        have A37 := Aside0.mk A370
                        clear A370
                        by_cases c38 : (t342 == a0) = true
                        · rw [if_pos c38] at H
                          have c38b0 : (t342 == a0) = true := c38
                          (try (have c38b1 : decide (t342 = a0) = true := by simpa using c38))
                          (try (have c38b2 : (t342 == a0) = true := by simpa using c38))
                          clear c38
                          obtain rfl := Option.some.inj H
                          go_wp2_with (first | ((with_reducible refine gate_callee (f := 17) rfl ?_); refine goesL_ (some 64) rfl rfl Try.func17 (by kernel_rfl) rfl #[.int .u64 t335] rfl (by (try simp only [List.map_toArray, List.map_cons, List.map_nil]); first | done | rfl | (simp only [List.length_drop, List.length_take]; rfl)) ?_; (with_reducible refine (word_Abs.calls t335 t341 _ A35.out).mono ?_); rintro e w' ⟨rfl, ⟨nd, rfl⟩⟩; refine ⟨_, rfl, ?_⟩) | (go_at_call 16; (with_reducible refine (word_Neg.calls t335 t342 _ A37.out).mono ?_); rintro e w' ⟨rfl, ⟨nd, rfl⟩⟩))
                          go_ret
                          exact ⟨by first | rfl | (simp [errW_none, errW_some] <;> rfl) | (simp only [← hji7, ← hji8]; first | rfl | (simp [errW_none, errW_some] <;> rfl)) | (simp [*, errW_none, errW_some] <;> rfl), by repeat (first | (with_reducible first | exact HB.out | apply below_alloc | apply pw_below_drewN | apply below_drew1 | refine below_set ?_ GE333.out) | exact HB.out)⟩
                        · rw [if_neg c38] at H
                          have c38b0 : (t342 == a0) = false := by simpa using c38
                          (try (have c38b1 : decide (t342 = a0) = false := by simpa using c38))
                          (try (have c38b2 : (t342 == a0) = false := by simpa using c38))
                          (try (have c38b3 : ¬ (t342 = a0) := by simpa using c38))
                          clear c38
                          obtain rfl := Option.some.inj H
                          go_wp2_with (first | ((with_reducible refine gate_callee (f := 17) rfl ?_); refine goesL_ (some 64) rfl rfl Try.func17 (by kernel_rfl) rfl #[.int .u64 t335] rfl (by (try simp only [List.map_toArray, List.map_cons, List.map_nil]); first | done | rfl | (simp only [List.length_drop, List.length_take]; rfl)) ?_; (with_reducible refine (word_Abs.calls t335 t341 _ A35.out).mono ?_); rintro e w' ⟨rfl, ⟨nd, rfl⟩⟩; refine ⟨_, rfl, ?_⟩) | (go_at_call 16; (with_reducible refine (word_Neg.calls t335 t342 _ A37.out).mono ?_); rintro e w' ⟨rfl, ⟨nd, rfl⟩⟩))
                          go_ret
                          exact ⟨by first | rfl | (simp [errW_none, errW_some] <;> rfl) | (simp only [← hji7, ← hji8]; first | rfl | (simp [errW_none, errW_some] <;> rfl)) | (simp [*, errW_none, errW_some] <;> rfl), by repeat (first | (with_reducible first | exact HB.out | apply below_alloc | apply pw_below_drewN | apply below_drew1 | refine below_set ?_ GE333.out) | exact HB.out)⟩
                      · rw [if_neg c36] at H
                        have c36b0 : (t341 == 0) = false := beq_eq_false_iff_ne.mpr c36
                        have c36b1 : (t341 != 0) = true := bne_iff_ne.mpr c36
                        obtain rfl := Option.some.inj H
                        go_wp2_with (first | ((with_reducible refine gate_callee (f := 17) rfl ?_); refine goesL_ (some 64) rfl rfl Try.func17 (by kernel_rfl) rfl #[.int .u64 t335] rfl (by (try simp only [List.map_toArray, List.map_cons, List.map_nil]); first | done | rfl | (simp only [List.length_drop, List.length_take]; rfl)) ?_; (with_reducible refine (word_Abs.calls t335 t341 _ A35.out).mono ?_); rintro e w' ⟨rfl, ⟨nd, rfl⟩⟩; refine ⟨_, rfl, ?_⟩))
                        go_ret
                        exact ⟨by first | rfl | (simp [errW_none, errW_some] <;> rfl) | (simp only [← hji7, ← hji8]; first | rfl | (simp [errW_none, errW_some] <;> rfl)) | (simp [*, errW_none, errW_some] <;> rfl), by repeat (first | (with_reducible first | exact HB.out | apply below_alloc | apply pw_below_drewN | apply below_drew1 | refine below_set ?_ GE333.out) | exact HB.out)⟩
                    · replace c34 := Bool.eq_false_iff.mpr c34
                      subst c34
                      have H1 : ((word_Abs.f t335).bind fun t343 => (if t343 = 9218868437227405312 then ((word_Neg.f t335).bind fun t344 => (if (t344 == a0) = true then (some (t336 == 5)) else (some false))) else (some false))) = some r := by rw [if_neg (show ¬ (false = true) by decide)] at H; exact H
                      clear H
                      have H := H1
                      clear H1
                      replace H := Option.bind_eq_some_iff.mp H
                      obtain ⟨t343, A390, H⟩ := H
                      replace H : (if t343 = 9218868437227405312 then ((word_Neg.f t335).bind fun t344 => (if (t344 == a0) = true then (some (t336 == 5)) else (some false))) else (some false)) = some r := H
                      have A39 := Aside0.mk A390
                      clear A390
                      by_cases c40 : t343 = 9218868437227405312
                      · rw [if_pos c40] at H
                        have c40b0 : (t343 == 9218868437227405312) = true := beq_iff_eq.mpr c40
                        have c40b1 : (t343 != 9218868437227405312) = false := bne_eq_false_iff_eq.mpr c40
                        clear c40
                        replace H := Option.bind_eq_some_iff.mp H
                        obtain ⟨t344, A410, H⟩ := H
                        replace H : (if (t344 == a0) = true then (some (t336 == 5)) else (some false)) = some r := H
                        have A41 := Aside0.mk A410
                        clear A410
                        by_cases c42 : (t344 == a0) = true
                        · rw [if_pos c42] at H
                          have c42b0 : (t344 == a0) = true := c42
                          (try (have c42b1 : decide (t344 = a0) = true := by simpa using c42))
                          (try (have c42b2 : (t344 == a0) = true := by simpa using c42))
                          clear c42
                          obtain rfl := Option.some.inj H
                          go_wp2_with (first | ((with_reducible refine gate_callee (f := 17) rfl ?_); refine goesL_ (some 77) rfl rfl Try.func17 (by kernel_rfl) rfl #[.int .u64 t335] rfl (by (try simp only [List.map_toArray, List.map_cons, List.map_nil]); first | done | rfl | (simp only [List.length_drop, List.length_take]; rfl)) ?_; (with_reducible refine (word_Abs.calls t335 t343 _ A39.out).mono ?_); rintro e w' ⟨rfl, ⟨nd, rfl⟩⟩; refine ⟨_, rfl, ?_⟩) | (go_at_call 16; (with_reducible refine (word_Neg.calls t335 t344 _ A41.out).mono ?_); rintro e w' ⟨rfl, ⟨nd, rfl⟩⟩))
                          go_ret
                          exact ⟨by first | rfl | (simp [errW_none, errW_some] <;> rfl) | (simp only [← hji7, ← hji8]; first | rfl | (simp [errW_none, errW_some] <;> rfl)) | (simp [*, errW_none, errW_some] <;> rfl), by repeat (first | (with_reducible first | exact HB.out | apply below_alloc | apply pw_below_drewN | apply below_drew1 | refine below_set ?_ GE333.out) | exact HB.out)⟩
                        · rw [if_neg c42] at H
                          have c42b0 : (t344 == a0) = false := by simpa using c42
                          (try (have c42b1 : decide (t344 = a0) = false := by simpa using c42))
                          (try (have c42b2 : (t344 == a0) = false := by simpa using c42))
                          (try (have c42b3 : ¬ (t344 = a0) := by simpa using c42))
                          clear c42
                          obtain rfl := Option.some.inj H
                          go_wp2_with (first | ((with_reducible refine gate_callee (f := 17) rfl ?_); refine goesL_ (some 77) rfl rfl Try.func17 (by kernel_rfl) rfl #[.int .u64 t335] rfl (by (try simp only [List.map_toArray, List.map_cons, List.map_nil]); first | done | rfl | (simp only [List.length_drop, List.length_take]; rfl)) ?_; (with_reducible refine (word_Abs.calls t335 t343 _ A39.out).mono ?_); rintro e w' ⟨rfl, ⟨nd, rfl⟩⟩; refine ⟨_, rfl, ?_⟩) | (go_at_call 16; (with_reducible refine (word_Neg.calls t335 t344 _ A41.out).mono ?_); rintro e w' ⟨rfl, ⟨nd, rfl⟩⟩))
                          go_ret
                          exact ⟨by first | rfl | (simp [errW_none, errW_some] <;> rfl) | (simp only [← hji7, ← hji8]; first | rfl | (simp [errW_none, errW_some] <;> rfl)) | (simp [*, errW_none, errW_some] <;> rfl), by repeat (first | (with_reducible first | exact HB.out | apply below_alloc | apply pw_below_drewN | apply below_drew1 | refine below_set ?_ GE333.out) | exact HB.out)⟩
                      · rw [if_neg c40] at H
                        have c40b0 : (t343 == 9218868437227405312) = false := beq_eq_false_iff_ne.mpr c40
                        have c40b1 : (t343 != 9218868437227405312) = true := bne_iff_ne.mpr c40
                        obtain rfl := Option.some.inj H
                        go_wp2_with (first | ((with_reducible refine gate_callee (f := 17) rfl ?_); refine goesL_ (some 77) rfl rfl Try.func17 (by kernel_rfl) rfl #[.int .u64 t335] rfl (by (try simp only [List.map_toArray, List.map_cons, List.map_nil]); first | done | rfl | (simp only [List.length_drop, List.length_take]; rfl)) ?_; (with_reducible refine (word_Abs.calls t335 t343 _ A39.out).mono ?_); rintro e w' ⟨rfl, ⟨nd, rfl⟩⟩; refine ⟨_, rfl, ?_⟩))
                        go_ret
                        exact ⟨by first | rfl | (simp [errW_none, errW_some] <;> rfl) | (simp only [← hji7, ← hji8]; first | rfl | (simp [errW_none, errW_some] <;> rfl)) | (simp [*, errW_none, errW_some] <;> rfl), by repeat (first | (with_reducible first | exact HB.out | apply below_alloc | apply pw_below_drewN | apply below_drew1 | refine below_set ?_ GE333.out) | exact HB.out)⟩
        · replace c13 := Bool.eq_false_iff.mpr c13
          subst c13
          have H1 : ((round_Round.f kj8 a0 a1_0 a1_1 a2 a3).bind fun bt345 => ((gimballaw03_list.f kj8 a1_0 a1_1).bind fun t347 => (if a3 = true then ((gimbalref02_Up.f kj8 t347 200).bind fun t350 => ((gimbalref03_Round.f kj8 a0 t350 (wrap64 (ji8 - 200)) true).bind fun bt353 => ((wide_Wide_Zero.f a1_0 a1_1).bind fun t356 => (if t356 = true then ((word_Abs.f bt345.1).bind fun t357 => (if t357 = 0 then ((word_Neg.f bt345.1).bind fun t358 => (if (t358 == a0) = true then (some (bt345.2 == 3)) else (some false))) else (some false))) else (if bt345.1 = bt353.1 then (some ((wrap64 (bt345.2)) == bt353.2)) else (some false)))))) else ((gimbalref03_Round.f kj8 a0 t347 ji8 false).bind fun bt359 => (if bt345.1 = bt359.1 then (some ((wrap64 (bt345.2)) == bt359.2)) else (some false)))))) = some r := by rw [if_neg (show ¬ (false = true) by decide)] at H; exact H
          clear H
          have H := H1
          clear H1
          replace H := Option.bind_eq_some_iff.mp H
          obtain ⟨⟨t345, t346⟩, A430, H⟩ := H
          replace H : ((gimballaw03_list.f kj8 a1_0 a1_1).bind fun t347 => (if a3 = true then ((gimbalref02_Up.f kj8 t347 200).bind fun t350 => ((gimbalref03_Round.f kj8 a0 t350 (wrap64 (ji8 - 200)) true).bind fun bt353 => ((wide_Wide_Zero.f a1_0 a1_1).bind fun t356 => (if t356 = true then ((word_Abs.f t345).bind fun t357 => (if t357 = 0 then ((word_Neg.f t345).bind fun t358 => (if (t358 == a0) = true then (some (t346 == 3)) else (some false))) else (some false))) else (if t345 = bt353.1 then (some ((wrap64 (t346)) == bt353.2)) else (some false)))))) else ((gimbalref03_Round.f kj8 a0 t347 ji8 false).bind fun bt359 => (if t345 = bt359.1 then (some ((wrap64 (t346)) == bt359.2)) else (some false))))) = some r := H
          have A43 := Aside0.mk A430
          clear A430
          replace H := Option.bind_eq_some_iff.mp H
          obtain ⟨t347, A440, H⟩ := H
          replace H : (if a3 = true then ((gimbalref02_Up.f kj8 t347 200).bind fun t350 => ((gimbalref03_Round.f kj8 a0 t350 (wrap64 (ji8 - 200)) true).bind fun bt353 => ((wide_Wide_Zero.f a1_0 a1_1).bind fun t356 => (if t356 = true then ((word_Abs.f t345).bind fun t357 => (if t357 = 0 then ((word_Neg.f t345).bind fun t358 => (if (t358 == a0) = true then (some (t346 == 3)) else (some false))) else (some false))) else (if t345 = bt353.1 then (some ((wrap64 (t346)) == bt353.2)) else (some false)))))) else ((gimbalref03_Round.f kj8 a0 t347 ji8 false).bind fun bt359 => (if t345 = bt359.1 then (some ((wrap64 (t346)) == bt359.2)) else (some false)))) = some r := H
          have A44 := Aside0.mk A440
          clear A440
          by_cases c45 : a3 = true
          · subst c45
            have H1 : ((gimbalref02_Up.f kj8 t347 200).bind fun t350 => ((gimbalref03_Round.f kj8 a0 t350 (wrap64 (ji8 - 200)) true).bind fun bt353 => ((wide_Wide_Zero.f a1_0 a1_1).bind fun t356 => (if t356 = true then ((word_Abs.f t345).bind fun t357 => (if t357 = 0 then ((word_Neg.f t345).bind fun t358 => (if (t358 == a0) = true then (some (t346 == 3)) else (some false))) else (some false))) else (if t345 = bt353.1 then (some ((wrap64 (t346)) == bt353.2)) else (some false)))))) = some r := by rw [if_pos rfl] at H; exact H
            clear H
            have H := H1
            clear H1
            replace H := Option.bind_eq_some_iff.mp H
            obtain ⟨t350, A460, H⟩ := H
            replace H : ((gimbalref03_Round.f kj8 a0 t350 (wrap64 (ji8 - 200)) true).bind fun bt353 => ((wide_Wide_Zero.f a1_0 a1_1).bind fun t356 => (if t356 = true then ((word_Abs.f t345).bind fun t357 => (if t357 = 0 then ((word_Neg.f t345).bind fun t358 => (if (t358 == a0) = true then (some (t346 == 3)) else (some false))) else (some false))) else (if t345 = bt353.1 then (some ((wrap64 (t346)) == bt353.2)) else (some false))))) = some r := H
            have A46 := Aside0.mk A460
            clear A460
            replace H := Option.bind_eq_some_iff.mp H
            obtain ⟨⟨t353, t354⟩, A470, H⟩ := H
            replace H : ((wide_Wide_Zero.f a1_0 a1_1).bind fun t356 => (if t356 = true then ((word_Abs.f t345).bind fun t357 => (if t357 = 0 then ((word_Neg.f t345).bind fun t358 => (if (t358 == a0) = true then (some (t346 == 3)) else (some false))) else (some false))) else (if t345 = t353 then (some ((wrap64 (t346)) == t354)) else (some false)))) = some r := H
            have A47 := Aside0.mk A470
            clear A470
            replace H := Option.bind_eq_some_iff.mp H
            obtain ⟨t356, A480, H⟩ := H
            replace H : (if t356 = true then ((word_Abs.f t345).bind fun t357 => (if t357 = 0 then ((word_Neg.f t345).bind fun t358 => (if (t358 == a0) = true then (some (t346 == 3)) else (some false))) else (some false))) else (if t345 = t353 then (some ((wrap64 (t346)) == t354)) else (some false))) = some r := H
            have A48 := Aside0.mk A480
            clear A480
            by_cases c49 : t356 = true
            · subst c49
              have H1 : ((word_Abs.f t345).bind fun t357 => (if t357 = 0 then ((word_Neg.f t345).bind fun t358 => (if (t358 == a0) = true then (some (t346 == 3)) else (some false))) else (some false))) = some r := by rw [if_pos rfl] at H; exact H
              clear H
              have H := H1
              clear H1
              replace H := Option.bind_eq_some_iff.mp H
              obtain ⟨t357, A500, H⟩ := H
              replace H : (if t357 = 0 then ((word_Neg.f t345).bind fun t358 => (if (t358 == a0) = true then (some (t346 == 3)) else (some false))) else (some false)) = some r := H
              have A50 := Aside0.mk A500
              clear A500
              by_cases c51 : t357 = 0
              · rw [if_pos c51] at H
                have c51b0 : (t357 == 0) = true := beq_iff_eq.mpr c51
                have c51b1 : (t357 != 0) = false := bne_eq_false_iff_eq.mpr c51
                clear c51
                replace H := Option.bind_eq_some_iff.mp H
                obtain ⟨t358, A520, H⟩ := H
                replace H : (if (t358 == a0) = true then (some (t346 == 3)) else (some false)) = some r := H
                have A52 := Aside0.mk A520
                clear A520
                by_cases c53 : (t358 == a0) = true
                · rw [if_pos c53] at H
                  have c53b0 : (t358 == a0) = true := c53
                  (try (have c53b1 : decide (t358 = a0) = true := by simpa using c53))
                  (try (have c53b2 : (t358 == a0) = true := by simpa using c53))
                  clear c53
                  obtain rfl := Option.some.inj H
                  have hcz54_0 : wc.cell? ⟨gb333, 0, none⟩ = some (.int .u64 a1_0) := (blk_cell BK333.out 0).trans rfl
                  have hcz54_1 : wc.cell? ⟨gb333, 1, none⟩ = some (.int .u64 a1_1) := (blk_cell BK333.out 1).trans rfl
                  have hfz54_0 := blk_frozen BK333.out 0
                  have hfz54_1 := blk_frozen BK333.out 1
                  go_wp2_with (first | ((with_reducible refine gate_callee (f := 31) rfl ?_); refine goesL_ (some 94) rfl rfl Try.func31 (by kernel_rfl) rfl #[.bool a0, .agg #[.int .u64 a1_0, .int .u64 a1_1], .int .i64 a2, .bool true] rfl (by (try simp only [List.map_toArray, List.map_cons, List.map_nil]); first | done | rfl | (simp only [List.length_drop, List.length_take]; rfl)) ?_; (with_reducible refine (round_Round.calls kj8 a0 a1_0 a1_1 a2 true t345 t346 _ A43.out).mono ?_); rintro e w55 ⟨rfl, hb⟩; refine ⟨_, rfl, ?_⟩; have n0_ := Aside0.mk (blk_below (g := gb333) (o := .cells #[.int .u64 a1_0, .int .u64 a1_1] 42 (0, 0)) (by (with_reducible repeat (first | refine blk_drewN ?_ _ | refine blk_drew ?_ | refine blk_alloc ?_ _)); exact BK333.out) hb); have n1_ := Aside0.mk (below_step (by repeat (first | (with_reducible first | exact HB.out | apply below_alloc | apply pw_below_drewN | apply below_drew1 | refine below_set ?_ GE333.out) | exact HB.out)) hb); clear BK333; clear HB; have BK333 := n0_; have HB := n1_; clear n0_ n1_; (try clear hb); (try clear hb2); (try clear hk); (try clear hi); have hcz56_0 : w55.cell? ⟨gb333, 0, none⟩ = some (.int .u64 a1_0) := (blk_cell BK333.out 0).trans rfl; have hcz56_1 : w55.cell? ⟨gb333, 1, none⟩ = some (.int .u64 a1_1) := (blk_cell BK333.out 1).trans rfl; have hfz56_0 := blk_frozen BK333.out 0; have hfz56_1 := blk_frozen BK333.out 1) | ((with_reducible refine gate_callee (f := 33) rfl ?_); refine goesL_ (some 98) rfl rfl Try.func33 (by kernel_rfl) rfl #[.agg #[.int .u64 a1_0, .int .u64 a1_1]] rfl (by (try simp only [List.map_toArray, List.map_cons, List.map_nil]); first | done | rfl | (simp only [List.length_drop, List.length_take]; rfl)) ?_; (with_reducible refine (gimballaw03_list.calls kj8 a1_0 a1_1 t347 _ A44.out).mono ?_); rintro e w57 ⟨v348, rfl, ho0, hb⟩; refine ⟨_, rfl, ?_⟩; have n0_ := Aside0.mk (Kd.R_lower ho0 (below_size (by repeat (first | (with_reducible first | exact HB.out | apply below_alloc | apply pw_below_drewN | apply below_drew1 | refine below_set ?_ GE333.out) | exact HB.out)))); have n1_ := Aside0.mk (blk_below (g := gb333) (o := .cells #[.int .u64 a1_0, .int .u64 a1_1] 42 (0, 0)) (by (with_reducible repeat (first | refine blk_drewN ?_ _ | refine blk_drew ?_ | refine blk_alloc ?_ _)); exact BK333.out) hb); have n2_ := Aside0.mk (below_step (by repeat (first | (with_reducible first | exact HB.out | apply below_alloc | apply pw_below_drewN | apply below_drew1 | refine below_set ?_ GE333.out) | exact HB.out)) hb); clear BK333; clear HB; have HO349 := n0_; have BK333 := n1_; have HB := n2_; clear n0_ n1_ n2_; (try clear hb); (try clear hb2); (try clear hk); (try clear hi); (try clear ho0); obtain ⟨Ao58, co58, eo58⟩ := Kd.R_slice HO349.out; subst eo58) | ((with_reducible refine gate_callee (f := 35) rfl ?_); refine goesL_ (some 102) rfl rfl Try.func35 (by kernel_rfl) rfl #[.slice Ao58 t347.length co58, .int .i64 200] rfl (by (try simp only [List.map_toArray, List.map_cons, List.map_nil]); first | done | rfl | (simp only [List.length_drop, List.length_take]; rfl)) ?_; (with_reducible refine (gimbalref02_Up.calls kj8 _ _ t347 200 t350 _ ?side1 ?side2 A46.out).mono ?_); (case side1 => repeat (first | exact (Kd.R_reads' HO349.out).2.2 | (with_reducible refine Kd.C_alloc ?_ _) | (with_reducible refine Kd.C_drewN ?_ _) | (with_reducible refine Kd.C_drew ?_))); (case side2 => exact (Kd.R_reads' HO349.out).2.1); rintro e w59 ⟨v351, rfl, ho0, hb⟩; refine ⟨_, rfl, ?_⟩; have n0_ := Aside0.mk (Kd.R_elder' (by (with_reducible repeat (first | apply Kd.R_alloc | apply Kd.R_drewN | apply Kd.R_drew)); exact HO349.out) (Kd.R_base ho0) hb); have n1_ := Aside0.mk (Kd.R_lower (Kd.R_new' ho0 (Kd.R_lt (by (with_reducible repeat (first | apply Kd.R_alloc | apply Kd.R_drewN | apply Kd.R_drew)); exact HO349.out))) (below_size (by repeat (first | (with_reducible first | exact HB.out | apply below_alloc | apply pw_below_drewN | apply below_drew1 | refine below_set ?_ GE333.out) | exact HB.out)))); have n2_ := Aside0.mk (blk_below (g := gb333) (o := .cells #[.int .u64 a1_0, .int .u64 a1_1] 42 (0, 0)) (by (with_reducible repeat (first | refine blk_drewN ?_ _ | refine blk_drew ?_ | refine blk_alloc ?_ _)); exact BK333.out) hb); have n3_ := Aside0.mk (below_step (by repeat (first | (with_reducible first | exact HB.out | apply below_alloc | apply pw_below_drewN | apply below_drew1 | refine below_set ?_ GE333.out) | exact HB.out)) hb); clear HO349; clear BK333; clear HB; have HO349 := n0_; have HO352 := n1_; have BK333 := n2_; have HB := n3_; clear n0_ n1_ n2_ n3_; (try clear hb); (try clear hb2); (try clear hk); (try clear hi); (try clear ho0); obtain ⟨Ao60, co60, eo60⟩ := Kd.R_slice HO352.out; subst eo60) | ((with_reducible refine gate_callee (f := 34) rfl ?_); refine goesL_ (some 105) rfl rfl Try.func34 (by kernel_rfl) rfl #[.bool a0, .slice Ao60 t350.length co60, .int .i64 (wrap64 (ji8 - 200)), .bool true] rfl (by (try simp only [List.map_toArray, List.map_cons, List.map_nil]); first | done | (rw [show wrap64 (ji8 - 200) = ji8 - 200 from (by have h1_ := hji8_; have h2_ := hji7_; split at h1_ <;> split at h2_ <;> (unfold wrap64; omega))]; rfl) | (simp only [hji8]; rfl) | rfl | (simp only [List.length_drop, List.length_take]; rfl)) ?_; (with_reducible refine (gimbalref03_Round.calls kj8 a0 _ _ t350 (wrap64 (ji8 - 200)) true t353 t354 _ ?side1 ?side2 A47.out).mono ?_); (case side1 => repeat (first | exact (Kd.R_reads' HO352.out).2.2 | (with_reducible refine Kd.C_alloc ?_ _) | (with_reducible refine Kd.C_drewN ?_ _) | (with_reducible refine Kd.C_drew ?_))); (case side2 => exact (Kd.R_reads' HO352.out).2.1); rintro e w61 ⟨rfl, hb⟩; refine ⟨_, rfl, ?_⟩; have n0_ := Aside0.mk (Kd.R_below (by (with_reducible repeat (first | apply Kd.R_alloc | apply Kd.R_drewN | apply Kd.R_drew)); exact HO349.out) hb); have n1_ := Aside0.mk (Kd.R_below (by (with_reducible repeat (first | apply Kd.R_alloc | apply Kd.R_drewN | apply Kd.R_drew)); exact HO352.out) hb); have n2_ := Aside0.mk (blk_below (g := gb333) (o := .cells #[.int .u64 a1_0, .int .u64 a1_1] 42 (0, 0)) (by (with_reducible repeat (first | refine blk_drewN ?_ _ | refine blk_drew ?_ | refine blk_alloc ?_ _)); exact BK333.out) hb); have n3_ := Aside0.mk (below_step (by repeat (first | (with_reducible first | exact HB.out | apply below_alloc | apply pw_below_drewN | apply below_drew1 | refine below_set ?_ GE333.out) | exact HB.out)) hb); clear HO349; clear HO352; clear BK333; clear HB; have HO349 := n0_; have HO352 := n1_; have BK333 := n2_; have HB := n3_; clear n0_ n1_ n2_ n3_; (try clear hb); (try clear hb2); (try clear hk); (try clear hi)) | ((with_reducible refine gate_dst (N := 15) rfl ?_); refine box_event ?hg (N := 15) ?hd (cs := #[.int .u64 0, .int .i64 0]) (t := 46) ?hr ?_; (case hd => rfl); (case hg => rfl); (case hr => first | (go_simp; done) | (go_simp; rfl)); intro gb355 hg w62 hbox hb; have n0_ := Aside0.mk (Kd.R_below (by (with_reducible repeat (first | apply Kd.R_alloc | apply Kd.R_drewN | apply Kd.R_drew)); exact HO349.out) hb); have n1_ := Aside0.mk (Kd.R_below (by (with_reducible repeat (first | apply Kd.R_alloc | apply Kd.R_drewN | apply Kd.R_drew)); exact HO352.out) hb); have n2_ := Aside0.mk (blk_below (g := gb333) (o := .cells #[.int .u64 a1_0, .int .u64 a1_1] 42 (0, 0)) (by (with_reducible repeat (first | refine blk_drewN ?_ _ | refine blk_drew ?_ | refine blk_alloc ?_ _)); exact BK333.out) hb); have n3_ := Aside0.mk (below_step (by repeat (first | (with_reducible first | exact HB.out | apply below_alloc | apply pw_below_drewN | apply below_drew1 | refine below_set ?_ GE333.out) | exact HB.out)) hb); have n4_ := Aside0.mk (hbox); have n5_ := Aside0.mk ((by rw [hg]; exact (below_size (by repeat (first | (with_reducible first | exact HB.out | apply below_alloc | apply pw_below_drewN | apply below_drew1 | refine below_set ?_ GE333.out) | exact HB.out))) : w.heap.size ≤ gb355)); have n6_ := Aside0.mk ((by rw [hg]; exact (below_size (by repeat (first | (with_reducible first | exact HB.out | apply below_alloc | apply pw_below_drewN | apply below_drew1 | refine below_set ?_ GE333.out) | exact HB.out))) : w.heap.size ≤ gb355)); have n7_ := Aside0.mk ((by rw [hg]; exact Nat.ne_of_lt (blk_lt (g := gb333) (o := .cells #[.int .u64 a1_0, .int .u64 a1_1] 42 (0, 0)) (by (with_reducible repeat (first | refine blk_drewN ?_ _ | refine blk_drew ?_ | refine blk_alloc ?_ _)); exact BK333.out)) : gb333 ≠ gb355)); have n8_ := Aside0.mk ((by rw [hg]; exact Nat.ne_of_gt (blk_lt (g := gb333) (o := .cells #[.int .u64 a1_0, .int .u64 a1_1] 42 (0, 0)) (by (with_reducible repeat (first | refine blk_drewN ?_ _ | refine blk_drew ?_ | refine blk_alloc ?_ _)); exact BK333.out)) : gb355 ≠ gb333)); clear HO349; clear HO352; clear BK333; clear HB; have HO349 := n0_; have HO352 := n1_; have BK333 := n2_; have HB := n3_; have BK355 := n4_; have GW355 := n5_; have GE355 := n6_; have NB333_355 := n7_; have NB355_333 := n8_; clear n0_ n1_ n2_ n3_ n4_ n5_ n6_ n7_ n8_; clear hb hbox hg; have hnb63 := NB355_333.out; have hnc63 := NB333_355.out; have hcz64_0 : w62.cell? ⟨gb355, 0, none⟩ = some (.int .u64 0) := (blk_cell BK355.out 0).trans rfl; have hcz64_1 : w62.cell? ⟨gb355, 1, none⟩ = some (.int .i64 0) := (blk_cell BK355.out 1).trans rfl; have hfz64_0 := blk_frozen BK355.out 0; have hfz64_1 := blk_frozen BK355.out 1; have hcz65_0 : w62.cell? ⟨gb333, 0, none⟩ = some (.int .u64 a1_0) := (blk_cell BK333.out 0).trans rfl; have hcz65_1 : w62.cell? ⟨gb333, 1, none⟩ = some (.int .u64 a1_1) := (blk_cell BK333.out 1).trans rfl; have hfz65_0 := blk_frozen BK333.out 0; have hfz65_1 := blk_frozen BK333.out 1) | ((with_reducible refine gate_callee (f := 32) rfl ?_); refine goesL_ (some 107) rfl rfl Try.func32 (by kernel_rfl) rfl #[.agg #[.int .u64 a1_0, .int .u64 a1_1]] rfl (by (try simp only [List.map_toArray, List.map_cons, List.map_nil]); first | done | rfl | (simp only [List.length_drop, List.length_take]; rfl)) ?_; (with_reducible refine (wide_Wide_Zero.calls a1_0 a1_1 true _ A48.out).mono ?_); rintro e w66 ⟨rfl, hb⟩; refine ⟨_, rfl, ?_⟩; have n0_ := Aside0.mk (Kd.R_below (by (with_reducible repeat (first | apply Kd.R_alloc | apply Kd.R_drewN | apply Kd.R_drew)); exact (Kd.R_mono (Kd.R_far (p := ⟨gb355, 1, none⟩) (Kd.R_far (p := ⟨gb355, 0, none⟩) (Kd.R_types HO349.out BK355.out (by decide)) (fun _ hk => hk.2) (.int .u64 t353)) (fun _ hk => hk.2) (.int .i64 t354)) (fun _ h_ => h_.1))) hb); have n1_ := Aside0.mk (Kd.R_below (by (with_reducible repeat (first | apply Kd.R_alloc | apply Kd.R_drewN | apply Kd.R_drew)); exact (Kd.R_mono (Kd.R_far (p := ⟨gb355, 1, none⟩) (Kd.R_far (p := ⟨gb355, 0, none⟩) (Kd.R_types HO352.out BK355.out (by decide)) (fun _ hk => hk.2) (.int .u64 t353)) (fun _ hk => hk.2) (.int .i64 t354)) (fun _ h_ => h_.1))) hb); have n2_ := Aside0.mk (blk_below (g := gb333) (o := .cells #[.int .u64 a1_0, .int .u64 a1_1] 42 (0, 0)) (by (with_reducible repeat (first | refine blk_drewN ?_ _ | refine blk_drew ?_ | refine blk_alloc ?_ _)); refine blk_far ?_ NB333_355.out _; (with_reducible repeat (first | refine blk_drewN ?_ _ | refine blk_drew ?_ | refine blk_alloc ?_ _)); refine blk_far ?_ NB333_355.out _; (with_reducible repeat (first | refine blk_drewN ?_ _ | refine blk_drew ?_ | refine blk_alloc ?_ _)); exact BK333.out) hb); have n3_ := Aside0.mk (blk_below (g := gb355) (o := .cells #[.int .u64 t353, .int .i64 t354] 46 (0, 0)) (by (with_reducible repeat (first | refine blk_drewN ?_ _ | refine blk_drew ?_ | refine blk_alloc ?_ _)); refine blk_put (cs := #[.int .u64 t353, .int .i64 0]) ?_ 1 _ rfl; (with_reducible repeat (first | refine blk_drewN ?_ _ | refine blk_drew ?_ | refine blk_alloc ?_ _)); refine blk_put (cs := #[.int .u64 0, .int .i64 0]) ?_ 0 _ rfl; (with_reducible repeat (first | refine blk_drewN ?_ _ | refine blk_drew ?_ | refine blk_alloc ?_ _)); exact BK355.out) hb); have n4_ := Aside0.mk (below_step (by repeat (first | (with_reducible first | exact HB.out | apply below_alloc | apply pw_below_drewN | apply below_drew1 | refine below_set ?_ GE333.out | refine below_set ?_ GE355.out) | exact HB.out)) hb); clear HO349; clear HO352; clear BK333; clear BK355; clear HB; have HO349 := n0_; have HO352 := n1_; have BK333 := n2_; have BK355 := n3_; have HB := n4_; clear n0_ n1_ n2_ n3_ n4_; (try clear hb); (try clear hb2); (try clear hk); (try clear hi)) | ((with_reducible refine gate_callee (f := 17) rfl ?_); refine goesL_ (some 109) rfl rfl Try.func17 (by kernel_rfl) rfl #[.int .u64 t345] rfl (by (try simp only [List.map_toArray, List.map_cons, List.map_nil]); first | done | rfl | (simp only [List.length_drop, List.length_take]; rfl)) ?_; (with_reducible refine (word_Abs.calls t345 t357 _ A50.out).mono ?_); rintro e w' ⟨rfl, ⟨nd, rfl⟩⟩; refine ⟨_, rfl, ?_⟩) | (go_at_call 16; (with_reducible refine (word_Neg.calls t345 t358 _ A52.out).mono ?_); rintro e w' ⟨rfl, ⟨nd, rfl⟩⟩))
                  go_ret
                  exact ⟨by first | rfl | (simp [errW_none, errW_some] <;> rfl) | (simp only [← hji7, ← hji8]; first | rfl | (simp [errW_none, errW_some] <;> rfl)) | (simp [*, errW_none, errW_some] <;> rfl), by repeat (first | (with_reducible first | exact HB.out | apply below_alloc | apply pw_below_drewN | apply below_drew1 | refine below_set ?_ GE333.out | refine below_set ?_ GE355.out) | exact HB.out)⟩
                · rw [if_neg c53] at H
                  have c53b0 : (t358 == a0) = false := by simpa using c53
                  (try (have c53b1 : decide (t358 = a0) = false := by simpa using c53))
                  (try (have c53b2 : (t358 == a0) = false := by simpa using c53))
                  (try (have c53b3 : ¬ (t358 = a0) := by simpa using c53))
                  clear c53
                  obtain rfl := Option.some.inj H
                  have hcz67_0 : wc.cell? ⟨gb333, 0, none⟩ = some (.int .u64 a1_0) := (blk_cell BK333.out 0).trans rfl
                  have hcz67_1 : wc.cell? ⟨gb333, 1, none⟩ = some (.int .u64 a1_1) := (blk_cell BK333.out 1).trans rfl
                  have hfz67_0 := blk_frozen BK333.out 0
                  have hfz67_1 := blk_frozen BK333.out 1
                  go_wp2_with (first | ((with_reducible refine gate_callee (f := 31) rfl ?_); refine goesL_ (some 94) rfl rfl Try.func31 (by kernel_rfl) rfl #[.bool a0, .agg #[.int .u64 a1_0, .int .u64 a1_1], .int .i64 a2, .bool true] rfl (by (try simp only [List.map_toArray, List.map_cons, List.map_nil]); first | done | rfl | (simp only [List.length_drop, List.length_take]; rfl)) ?_; (with_reducible refine (round_Round.calls kj8 a0 a1_0 a1_1 a2 true t345 t346 _ A43.out).mono ?_); rintro e w68 ⟨rfl, hb⟩; refine ⟨_, rfl, ?_⟩; have n0_ := Aside0.mk (blk_below (g := gb333) (o := .cells #[.int .u64 a1_0, .int .u64 a1_1] 42 (0, 0)) (by (with_reducible repeat (first | refine blk_drewN ?_ _ | refine blk_drew ?_ | refine blk_alloc ?_ _)); exact BK333.out) hb); have n1_ := Aside0.mk (below_step (by repeat (first | (with_reducible first | exact HB.out | apply below_alloc | apply pw_below_drewN | apply below_drew1 | refine below_set ?_ GE333.out) | exact HB.out)) hb); clear BK333; clear HB; have BK333 := n0_; have HB := n1_; clear n0_ n1_; (try clear hb); (try clear hb2); (try clear hk); (try clear hi); have hcz69_0 : w68.cell? ⟨gb333, 0, none⟩ = some (.int .u64 a1_0) := (blk_cell BK333.out 0).trans rfl; have hcz69_1 : w68.cell? ⟨gb333, 1, none⟩ = some (.int .u64 a1_1) := (blk_cell BK333.out 1).trans rfl; have hfz69_0 := blk_frozen BK333.out 0; have hfz69_1 := blk_frozen BK333.out 1) | ((with_reducible refine gate_callee (f := 33) rfl ?_); refine goesL_ (some 98) rfl rfl Try.func33 (by kernel_rfl) rfl #[.agg #[.int .u64 a1_0, .int .u64 a1_1]] rfl (by (try simp only [List.map_toArray, List.map_cons, List.map_nil]); first | done | rfl | (simp only [List.length_drop, List.length_take]; rfl)) ?_; (with_reducible refine (gimballaw03_list.calls kj8 a1_0 a1_1 t347 _ A44.out).mono ?_); rintro e w70 ⟨v348, rfl, ho0, hb⟩; refine ⟨_, rfl, ?_⟩; have n0_ := Aside0.mk (Kd.R_lower ho0 (below_size (by repeat (first | (with_reducible first | exact HB.out | apply below_alloc | apply pw_below_drewN | apply below_drew1 | refine below_set ?_ GE333.out) | exact HB.out)))); have n1_ := Aside0.mk (blk_below (g := gb333) (o := .cells #[.int .u64 a1_0, .int .u64 a1_1] 42 (0, 0)) (by (with_reducible repeat (first | refine blk_drewN ?_ _ | refine blk_drew ?_ | refine blk_alloc ?_ _)); exact BK333.out) hb); have n2_ := Aside0.mk (below_step (by repeat (first | (with_reducible first | exact HB.out | apply below_alloc | apply pw_below_drewN | apply below_drew1 | refine below_set ?_ GE333.out) | exact HB.out)) hb); clear BK333; clear HB; have HO349 := n0_; have BK333 := n1_; have HB := n2_; clear n0_ n1_ n2_; (try clear hb); (try clear hb2); (try clear hk); (try clear hi); (try clear ho0); obtain ⟨Ao71, co71, eo71⟩ := Kd.R_slice HO349.out; subst eo71) | ((with_reducible refine gate_callee (f := 35) rfl ?_); refine goesL_ (some 102) rfl rfl Try.func35 (by kernel_rfl) rfl #[.slice Ao71 t347.length co71, .int .i64 200] rfl (by (try simp only [List.map_toArray, List.map_cons, List.map_nil]); first | done | rfl | (simp only [List.length_drop, List.length_take]; rfl)) ?_; (with_reducible refine (gimbalref02_Up.calls kj8 _ _ t347 200 t350 _ ?side1 ?side2 A46.out).mono ?_); (case side1 => repeat (first | exact (Kd.R_reads' HO349.out).2.2 | (with_reducible refine Kd.C_alloc ?_ _) | (with_reducible refine Kd.C_drewN ?_ _) | (with_reducible refine Kd.C_drew ?_))); (case side2 => exact (Kd.R_reads' HO349.out).2.1); rintro e w72 ⟨v351, rfl, ho0, hb⟩; refine ⟨_, rfl, ?_⟩; have n0_ := Aside0.mk (Kd.R_elder' (by (with_reducible repeat (first | apply Kd.R_alloc | apply Kd.R_drewN | apply Kd.R_drew)); exact HO349.out) (Kd.R_base ho0) hb); have n1_ := Aside0.mk (Kd.R_lower (Kd.R_new' ho0 (Kd.R_lt (by (with_reducible repeat (first | apply Kd.R_alloc | apply Kd.R_drewN | apply Kd.R_drew)); exact HO349.out))) (below_size (by repeat (first | (with_reducible first | exact HB.out | apply below_alloc | apply pw_below_drewN | apply below_drew1 | refine below_set ?_ GE333.out) | exact HB.out)))); have n2_ := Aside0.mk (blk_below (g := gb333) (o := .cells #[.int .u64 a1_0, .int .u64 a1_1] 42 (0, 0)) (by (with_reducible repeat (first | refine blk_drewN ?_ _ | refine blk_drew ?_ | refine blk_alloc ?_ _)); exact BK333.out) hb); have n3_ := Aside0.mk (below_step (by repeat (first | (with_reducible first | exact HB.out | apply below_alloc | apply pw_below_drewN | apply below_drew1 | refine below_set ?_ GE333.out) | exact HB.out)) hb); clear HO349; clear BK333; clear HB; have HO349 := n0_; have HO352 := n1_; have BK333 := n2_; have HB := n3_; clear n0_ n1_ n2_ n3_; (try clear hb); (try clear hb2); (try clear hk); (try clear hi); (try clear ho0); obtain ⟨Ao73, co73, eo73⟩ := Kd.R_slice HO352.out; subst eo73) | ((with_reducible refine gate_callee (f := 34) rfl ?_); refine goesL_ (some 105) rfl rfl Try.func34 (by kernel_rfl) rfl #[.bool a0, .slice Ao73 t350.length co73, .int .i64 (wrap64 (ji8 - 200)), .bool true] rfl (by (try simp only [List.map_toArray, List.map_cons, List.map_nil]); first | done | (rw [show wrap64 (ji8 - 200) = ji8 - 200 from (by have h1_ := hji8_; have h2_ := hji7_; split at h1_ <;> split at h2_ <;> (unfold wrap64; omega))]; rfl) | (simp only [hji8]; rfl) | rfl | (simp only [List.length_drop, List.length_take]; rfl)) ?_; (with_reducible refine (gimbalref03_Round.calls kj8 a0 _ _ t350 (wrap64 (ji8 - 200)) true t353 t354 _ ?side1 ?side2 A47.out).mono ?_); (case side1 => repeat (first | exact (Kd.R_reads' HO352.out).2.2 | (with_reducible refine Kd.C_alloc ?_ _) | (with_reducible refine Kd.C_drewN ?_ _) | (with_reducible refine Kd.C_drew ?_))); (case side2 => exact (Kd.R_reads' HO352.out).2.1); rintro e w74 ⟨rfl, hb⟩; refine ⟨_, rfl, ?_⟩; have n0_ := Aside0.mk (Kd.R_below (by (with_reducible repeat (first | apply Kd.R_alloc | apply Kd.R_drewN | apply Kd.R_drew)); exact HO349.out) hb); have n1_ := Aside0.mk (Kd.R_below (by (with_reducible repeat (first | apply Kd.R_alloc | apply Kd.R_drewN | apply Kd.R_drew)); exact HO352.out) hb); have n2_ := Aside0.mk (blk_below (g := gb333) (o := .cells #[.int .u64 a1_0, .int .u64 a1_1] 42 (0, 0)) (by (with_reducible repeat (first | refine blk_drewN ?_ _ | refine blk_drew ?_ | refine blk_alloc ?_ _)); exact BK333.out) hb); have n3_ := Aside0.mk (below_step (by repeat (first | (with_reducible first | exact HB.out | apply below_alloc | apply pw_below_drewN | apply below_drew1 | refine below_set ?_ GE333.out) | exact HB.out)) hb); clear HO349; clear HO352; clear BK333; clear HB; have HO349 := n0_; have HO352 := n1_; have BK333 := n2_; have HB := n3_; clear n0_ n1_ n2_ n3_; (try clear hb); (try clear hb2); (try clear hk); (try clear hi)) | ((with_reducible refine gate_dst (N := 15) rfl ?_); refine box_event ?hg (N := 15) ?hd (cs := #[.int .u64 0, .int .i64 0]) (t := 46) ?hr ?_; (case hd => rfl); (case hg => rfl); (case hr => first | (go_simp; done) | (go_simp; rfl)); intro gb355 hg w75 hbox hb; have n0_ := Aside0.mk (Kd.R_below (by (with_reducible repeat (first | apply Kd.R_alloc | apply Kd.R_drewN | apply Kd.R_drew)); exact HO349.out) hb); have n1_ := Aside0.mk (Kd.R_below (by (with_reducible repeat (first | apply Kd.R_alloc | apply Kd.R_drewN | apply Kd.R_drew)); exact HO352.out) hb); have n2_ := Aside0.mk (blk_below (g := gb333) (o := .cells #[.int .u64 a1_0, .int .u64 a1_1] 42 (0, 0)) (by (with_reducible repeat (first | refine blk_drewN ?_ _ | refine blk_drew ?_ | refine blk_alloc ?_ _)); exact BK333.out) hb); have n3_ := Aside0.mk (below_step (by repeat (first | (with_reducible first | exact HB.out | apply below_alloc | apply pw_below_drewN | apply below_drew1 | refine below_set ?_ GE333.out) | exact HB.out)) hb); have n4_ := Aside0.mk (hbox); have n5_ := Aside0.mk ((by rw [hg]; exact (below_size (by repeat (first | (with_reducible first | exact HB.out | apply below_alloc | apply pw_below_drewN | apply below_drew1 | refine below_set ?_ GE333.out) | exact HB.out))) : w.heap.size ≤ gb355)); have n6_ := Aside0.mk ((by rw [hg]; exact (below_size (by repeat (first | (with_reducible first | exact HB.out | apply below_alloc | apply pw_below_drewN | apply below_drew1 | refine below_set ?_ GE333.out) | exact HB.out))) : w.heap.size ≤ gb355)); have n7_ := Aside0.mk ((by rw [hg]; exact Nat.ne_of_lt (blk_lt (g := gb333) (o := .cells #[.int .u64 a1_0, .int .u64 a1_1] 42 (0, 0)) (by (with_reducible repeat (first | refine blk_drewN ?_ _ | refine blk_drew ?_ | refine blk_alloc ?_ _)); exact BK333.out)) : gb333 ≠ gb355)); have n8_ := Aside0.mk ((by rw [hg]; exact Nat.ne_of_gt (blk_lt (g := gb333) (o := .cells #[.int .u64 a1_0, .int .u64 a1_1] 42 (0, 0)) (by (with_reducible repeat (first | refine blk_drewN ?_ _ | refine blk_drew ?_ | refine blk_alloc ?_ _)); exact BK333.out)) : gb355 ≠ gb333)); clear HO349; clear HO352; clear BK333; clear HB; have HO349 := n0_; have HO352 := n1_; have BK333 := n2_; have HB := n3_; have BK355 := n4_; have GW355 := n5_; have GE355 := n6_; have NB333_355 := n7_; have NB355_333 := n8_; clear n0_ n1_ n2_ n3_ n4_ n5_ n6_ n7_ n8_; clear hb hbox hg; have hnb76 := NB355_333.out; have hnc76 := NB333_355.out; have hcz77_0 : w75.cell? ⟨gb355, 0, none⟩ = some (.int .u64 0) := (blk_cell BK355.out 0).trans rfl; have hcz77_1 : w75.cell? ⟨gb355, 1, none⟩ = some (.int .i64 0) := (blk_cell BK355.out 1).trans rfl; have hfz77_0 := blk_frozen BK355.out 0; have hfz77_1 := blk_frozen BK355.out 1; have hcz78_0 : w75.cell? ⟨gb333, 0, none⟩ = some (.int .u64 a1_0) := (blk_cell BK333.out 0).trans rfl; have hcz78_1 : w75.cell? ⟨gb333, 1, none⟩ = some (.int .u64 a1_1) := (blk_cell BK333.out 1).trans rfl; have hfz78_0 := blk_frozen BK333.out 0; have hfz78_1 := blk_frozen BK333.out 1) | ((with_reducible refine gate_callee (f := 32) rfl ?_); refine goesL_ (some 107) rfl rfl Try.func32 (by kernel_rfl) rfl #[.agg #[.int .u64 a1_0, .int .u64 a1_1]] rfl (by (try simp only [List.map_toArray, List.map_cons, List.map_nil]); first | done | rfl | (simp only [List.length_drop, List.length_take]; rfl)) ?_; (with_reducible refine (wide_Wide_Zero.calls a1_0 a1_1 true _ A48.out).mono ?_); rintro e w79 ⟨rfl, hb⟩; refine ⟨_, rfl, ?_⟩; have n0_ := Aside0.mk (Kd.R_below (by (with_reducible repeat (first | apply Kd.R_alloc | apply Kd.R_drewN | apply Kd.R_drew)); exact (Kd.R_mono (Kd.R_far (p := ⟨gb355, 1, none⟩) (Kd.R_far (p := ⟨gb355, 0, none⟩) (Kd.R_types HO349.out BK355.out (by decide)) (fun _ hk => hk.2) (.int .u64 t353)) (fun _ hk => hk.2) (.int .i64 t354)) (fun _ h_ => h_.1))) hb); have n1_ := Aside0.mk (Kd.R_below (by (with_reducible repeat (first | apply Kd.R_alloc | apply Kd.R_drewN | apply Kd.R_drew)); exact (Kd.R_mono (Kd.R_far (p := ⟨gb355, 1, none⟩) (Kd.R_far (p := ⟨gb355, 0, none⟩) (Kd.R_types HO352.out BK355.out (by decide)) (fun _ hk => hk.2) (.int .u64 t353)) (fun _ hk => hk.2) (.int .i64 t354)) (fun _ h_ => h_.1))) hb); have n2_ := Aside0.mk (blk_below (g := gb333) (o := .cells #[.int .u64 a1_0, .int .u64 a1_1] 42 (0, 0)) (by (with_reducible repeat (first | refine blk_drewN ?_ _ | refine blk_drew ?_ | refine blk_alloc ?_ _)); refine blk_far ?_ NB333_355.out _; (with_reducible repeat (first | refine blk_drewN ?_ _ | refine blk_drew ?_ | refine blk_alloc ?_ _)); refine blk_far ?_ NB333_355.out _; (with_reducible repeat (first | refine blk_drewN ?_ _ | refine blk_drew ?_ | refine blk_alloc ?_ _)); exact BK333.out) hb); have n3_ := Aside0.mk (blk_below (g := gb355) (o := .cells #[.int .u64 t353, .int .i64 t354] 46 (0, 0)) (by (with_reducible repeat (first | refine blk_drewN ?_ _ | refine blk_drew ?_ | refine blk_alloc ?_ _)); refine blk_put (cs := #[.int .u64 t353, .int .i64 0]) ?_ 1 _ rfl; (with_reducible repeat (first | refine blk_drewN ?_ _ | refine blk_drew ?_ | refine blk_alloc ?_ _)); refine blk_put (cs := #[.int .u64 0, .int .i64 0]) ?_ 0 _ rfl; (with_reducible repeat (first | refine blk_drewN ?_ _ | refine blk_drew ?_ | refine blk_alloc ?_ _)); exact BK355.out) hb); have n4_ := Aside0.mk (below_step (by repeat (first | (with_reducible first | exact HB.out | apply below_alloc | apply pw_below_drewN | apply below_drew1 | refine below_set ?_ GE333.out | refine below_set ?_ GE355.out) | exact HB.out)) hb); clear HO349; clear HO352; clear BK333; clear BK355; clear HB; have HO349 := n0_; have HO352 := n1_; have BK333 := n2_; have BK355 := n3_; have HB := n4_; clear n0_ n1_ n2_ n3_ n4_; (try clear hb); (try clear hb2); (try clear hk); (try clear hi)) | ((with_reducible refine gate_callee (f := 17) rfl ?_); refine goesL_ (some 109) rfl rfl Try.func17 (by kernel_rfl) rfl #[.int .u64 t345] rfl (by (try simp only [List.map_toArray, List.map_cons, List.map_nil]); first | done | rfl | (simp only [List.length_drop, List.length_take]; rfl)) ?_; (with_reducible refine (word_Abs.calls t345 t357 _ A50.out).mono ?_); rintro e w' ⟨rfl, ⟨nd, rfl⟩⟩; refine ⟨_, rfl, ?_⟩) | (go_at_call 16; (with_reducible refine (word_Neg.calls t345 t358 _ A52.out).mono ?_); rintro e w' ⟨rfl, ⟨nd, rfl⟩⟩))
                  go_ret
                  exact ⟨by first | rfl | (simp [errW_none, errW_some] <;> rfl) | (simp only [← hji7, ← hji8]; first | rfl | (simp [errW_none, errW_some] <;> rfl)) | (simp [*, errW_none, errW_some] <;> rfl), by repeat (first | (with_reducible first | exact HB.out | apply below_alloc | apply pw_below_drewN | apply below_drew1 | refine below_set ?_ GE333.out | refine below_set ?_ GE355.out) | exact HB.out)⟩
              · rw [if_neg c51] at H
                have c51b0 : (t357 == 0) = false := beq_eq_false_iff_ne.mpr c51
                have c51b1 : (t357 != 0) = true := bne_iff_ne.mpr c51
                obtain rfl := Option.some.inj H
                have hcz80_0 : wc.cell? ⟨gb333, 0, none⟩ = some (.int .u64 a1_0) := (blk_cell BK333.out 0).trans rfl
                have hcz80_1 : wc.cell? ⟨gb333, 1, none⟩ = some (.int .u64 a1_1) := (blk_cell BK333.out 1).trans rfl
                have hfz80_0 := blk_frozen BK333.out 0
                have hfz80_1 := blk_frozen BK333.out 1
                go_wp2_with (first | ((with_reducible refine gate_callee (f := 31) rfl ?_); refine goesL_ (some 94) rfl rfl Try.func31 (by kernel_rfl) rfl #[.bool a0, .agg #[.int .u64 a1_0, .int .u64 a1_1], .int .i64 a2, .bool true] rfl (by (try simp only [List.map_toArray, List.map_cons, List.map_nil]); first | done | rfl | (simp only [List.length_drop, List.length_take]; rfl)) ?_; (with_reducible refine (round_Round.calls kj8 a0 a1_0 a1_1 a2 true t345 t346 _ A43.out).mono ?_); rintro e w81 ⟨rfl, hb⟩; refine ⟨_, rfl, ?_⟩; have n0_ := Aside0.mk (blk_below (g := gb333) (o := .cells #[.int .u64 a1_0, .int .u64 a1_1] 42 (0, 0)) (by (with_reducible repeat (first | refine blk_drewN ?_ _ | refine blk_drew ?_ | refine blk_alloc ?_ _)); exact BK333.out) hb); have n1_ := Aside0.mk (below_step (by repeat (first | (with_reducible first | exact HB.out | apply below_alloc | apply pw_below_drewN | apply below_drew1 | refine below_set ?_ GE333.out) | exact HB.out)) hb); clear BK333; clear HB; have BK333 := n0_; have HB := n1_; clear n0_ n1_; (try clear hb); (try clear hb2); (try clear hk); (try clear hi); have hcz82_0 : w81.cell? ⟨gb333, 0, none⟩ = some (.int .u64 a1_0) := (blk_cell BK333.out 0).trans rfl; have hcz82_1 : w81.cell? ⟨gb333, 1, none⟩ = some (.int .u64 a1_1) := (blk_cell BK333.out 1).trans rfl; have hfz82_0 := blk_frozen BK333.out 0; have hfz82_1 := blk_frozen BK333.out 1) | ((with_reducible refine gate_callee (f := 33) rfl ?_); refine goesL_ (some 98) rfl rfl Try.func33 (by kernel_rfl) rfl #[.agg #[.int .u64 a1_0, .int .u64 a1_1]] rfl (by (try simp only [List.map_toArray, List.map_cons, List.map_nil]); first | done | rfl | (simp only [List.length_drop, List.length_take]; rfl)) ?_; (with_reducible refine (gimballaw03_list.calls kj8 a1_0 a1_1 t347 _ A44.out).mono ?_); rintro e w83 ⟨v348, rfl, ho0, hb⟩; refine ⟨_, rfl, ?_⟩; have n0_ := Aside0.mk (Kd.R_lower ho0 (below_size (by repeat (first | (with_reducible first | exact HB.out | apply below_alloc | apply pw_below_drewN | apply below_drew1 | refine below_set ?_ GE333.out) | exact HB.out)))); have n1_ := Aside0.mk (blk_below (g := gb333) (o := .cells #[.int .u64 a1_0, .int .u64 a1_1] 42 (0, 0)) (by (with_reducible repeat (first | refine blk_drewN ?_ _ | refine blk_drew ?_ | refine blk_alloc ?_ _)); exact BK333.out) hb); have n2_ := Aside0.mk (below_step (by repeat (first | (with_reducible first | exact HB.out | apply below_alloc | apply pw_below_drewN | apply below_drew1 | refine below_set ?_ GE333.out) | exact HB.out)) hb); clear BK333; clear HB; have HO349 := n0_; have BK333 := n1_; have HB := n2_; clear n0_ n1_ n2_; (try clear hb); (try clear hb2); (try clear hk); (try clear hi); (try clear ho0); obtain ⟨Ao84, co84, eo84⟩ := Kd.R_slice HO349.out; subst eo84) | ((with_reducible refine gate_callee (f := 35) rfl ?_); refine goesL_ (some 102) rfl rfl Try.func35 (by kernel_rfl) rfl #[.slice Ao84 t347.length co84, .int .i64 200] rfl (by (try simp only [List.map_toArray, List.map_cons, List.map_nil]); first | done | rfl | (simp only [List.length_drop, List.length_take]; rfl)) ?_; (with_reducible refine (gimbalref02_Up.calls kj8 _ _ t347 200 t350 _ ?side1 ?side2 A46.out).mono ?_); (case side1 => repeat (first | exact (Kd.R_reads' HO349.out).2.2 | (with_reducible refine Kd.C_alloc ?_ _) | (with_reducible refine Kd.C_drewN ?_ _) | (with_reducible refine Kd.C_drew ?_))); (case side2 => exact (Kd.R_reads' HO349.out).2.1); rintro e w85 ⟨v351, rfl, ho0, hb⟩; refine ⟨_, rfl, ?_⟩; have n0_ := Aside0.mk (Kd.R_elder' (by (with_reducible repeat (first | apply Kd.R_alloc | apply Kd.R_drewN | apply Kd.R_drew)); exact HO349.out) (Kd.R_base ho0) hb); have n1_ := Aside0.mk (Kd.R_lower (Kd.R_new' ho0 (Kd.R_lt (by (with_reducible repeat (first | apply Kd.R_alloc | apply Kd.R_drewN | apply Kd.R_drew)); exact HO349.out))) (below_size (by repeat (first | (with_reducible first | exact HB.out | apply below_alloc | apply pw_below_drewN | apply below_drew1 | refine below_set ?_ GE333.out) | exact HB.out)))); have n2_ := Aside0.mk (blk_below (g := gb333) (o := .cells #[.int .u64 a1_0, .int .u64 a1_1] 42 (0, 0)) (by (with_reducible repeat (first | refine blk_drewN ?_ _ | refine blk_drew ?_ | refine blk_alloc ?_ _)); exact BK333.out) hb); have n3_ := Aside0.mk (below_step (by repeat (first | (with_reducible first | exact HB.out | apply below_alloc | apply pw_below_drewN | apply below_drew1 | refine below_set ?_ GE333.out) | exact HB.out)) hb); clear HO349; clear BK333; clear HB; have HO349 := n0_; have HO352 := n1_; have BK333 := n2_; have HB := n3_; clear n0_ n1_ n2_ n3_; (try clear hb); (try clear hb2); (try clear hk); (try clear hi); (try clear ho0); obtain ⟨Ao86, co86, eo86⟩ := Kd.R_slice HO352.out; subst eo86) | ((with_reducible refine gate_callee (f := 34) rfl ?_); refine goesL_ (some 105) rfl rfl Try.func34 (by kernel_rfl) rfl #[.bool a0, .slice Ao86 t350.length co86, .int .i64 (wrap64 (ji8 - 200)), .bool true] rfl (by (try simp only [List.map_toArray, List.map_cons, List.map_nil]); first | done | (rw [show wrap64 (ji8 - 200) = ji8 - 200 from (by have h1_ := hji8_; have h2_ := hji7_; split at h1_ <;> split at h2_ <;> (unfold wrap64; omega))]; rfl) | (simp only [hji8]; rfl) | rfl | (simp only [List.length_drop, List.length_take]; rfl)) ?_; (with_reducible refine (gimbalref03_Round.calls kj8 a0 _ _ t350 (wrap64 (ji8 - 200)) true t353 t354 _ ?side1 ?side2 A47.out).mono ?_); (case side1 => repeat (first | exact (Kd.R_reads' HO352.out).2.2 | (with_reducible refine Kd.C_alloc ?_ _) | (with_reducible refine Kd.C_drewN ?_ _) | (with_reducible refine Kd.C_drew ?_))); (case side2 => exact (Kd.R_reads' HO352.out).2.1); rintro e w87 ⟨rfl, hb⟩; refine ⟨_, rfl, ?_⟩; have n0_ := Aside0.mk (Kd.R_below (by (with_reducible repeat (first | apply Kd.R_alloc | apply Kd.R_drewN | apply Kd.R_drew)); exact HO349.out) hb); have n1_ := Aside0.mk (Kd.R_below (by (with_reducible repeat (first | apply Kd.R_alloc | apply Kd.R_drewN | apply Kd.R_drew)); exact HO352.out) hb); have n2_ := Aside0.mk (blk_below (g := gb333) (o := .cells #[.int .u64 a1_0, .int .u64 a1_1] 42 (0, 0)) (by (with_reducible repeat (first | refine blk_drewN ?_ _ | refine blk_drew ?_ | refine blk_alloc ?_ _)); exact BK333.out) hb); have n3_ := Aside0.mk (below_step (by repeat (first | (with_reducible first | exact HB.out | apply below_alloc | apply pw_below_drewN | apply below_drew1 | refine below_set ?_ GE333.out) | exact HB.out)) hb); clear HO349; clear HO352; clear BK333; clear HB; have HO349 := n0_; have HO352 := n1_; have BK333 := n2_; have HB := n3_; clear n0_ n1_ n2_ n3_; (try clear hb); (try clear hb2); (try clear hk); (try clear hi)) | ((with_reducible refine gate_dst (N := 15) rfl ?_); refine box_event ?hg (N := 15) ?hd (cs := #[.int .u64 0, .int .i64 0]) (t := 46) ?hr ?_; (case hd => rfl); (case hg => rfl); (case hr => first | (go_simp; done) | (go_simp; rfl)); intro gb355 hg w88 hbox hb; have n0_ := Aside0.mk (Kd.R_below (by (with_reducible repeat (first | apply Kd.R_alloc | apply Kd.R_drewN | apply Kd.R_drew)); exact HO349.out) hb); have n1_ := Aside0.mk (Kd.R_below (by (with_reducible repeat (first | apply Kd.R_alloc | apply Kd.R_drewN | apply Kd.R_drew)); exact HO352.out) hb); have n2_ := Aside0.mk (blk_below (g := gb333) (o := .cells #[.int .u64 a1_0, .int .u64 a1_1] 42 (0, 0)) (by (with_reducible repeat (first | refine blk_drewN ?_ _ | refine blk_drew ?_ | refine blk_alloc ?_ _)); exact BK333.out) hb); have n3_ := Aside0.mk (below_step (by repeat (first | (with_reducible first | exact HB.out | apply below_alloc | apply pw_below_drewN | apply below_drew1 | refine below_set ?_ GE333.out) | exact HB.out)) hb); have n4_ := Aside0.mk (hbox); have n5_ := Aside0.mk ((by rw [hg]; exact (below_size (by repeat (first | (with_reducible first | exact HB.out | apply below_alloc | apply pw_below_drewN | apply below_drew1 | refine below_set ?_ GE333.out) | exact HB.out))) : w.heap.size ≤ gb355)); have n6_ := Aside0.mk ((by rw [hg]; exact (below_size (by repeat (first | (with_reducible first | exact HB.out | apply below_alloc | apply pw_below_drewN | apply below_drew1 | refine below_set ?_ GE333.out) | exact HB.out))) : w.heap.size ≤ gb355)); have n7_ := Aside0.mk ((by rw [hg]; exact Nat.ne_of_lt (blk_lt (g := gb333) (o := .cells #[.int .u64 a1_0, .int .u64 a1_1] 42 (0, 0)) (by (with_reducible repeat (first | refine blk_drewN ?_ _ | refine blk_drew ?_ | refine blk_alloc ?_ _)); exact BK333.out)) : gb333 ≠ gb355)); have n8_ := Aside0.mk ((by rw [hg]; exact Nat.ne_of_gt (blk_lt (g := gb333) (o := .cells #[.int .u64 a1_0, .int .u64 a1_1] 42 (0, 0)) (by (with_reducible repeat (first | refine blk_drewN ?_ _ | refine blk_drew ?_ | refine blk_alloc ?_ _)); exact BK333.out)) : gb355 ≠ gb333)); clear HO349; clear HO352; clear BK333; clear HB; have HO349 := n0_; have HO352 := n1_; have BK333 := n2_; have HB := n3_; have BK355 := n4_; have GW355 := n5_; have GE355 := n6_; have NB333_355 := n7_; have NB355_333 := n8_; clear n0_ n1_ n2_ n3_ n4_ n5_ n6_ n7_ n8_; clear hb hbox hg; have hnb89 := NB355_333.out; have hnc89 := NB333_355.out; have hcz90_0 : w88.cell? ⟨gb355, 0, none⟩ = some (.int .u64 0) := (blk_cell BK355.out 0).trans rfl; have hcz90_1 : w88.cell? ⟨gb355, 1, none⟩ = some (.int .i64 0) := (blk_cell BK355.out 1).trans rfl; have hfz90_0 := blk_frozen BK355.out 0; have hfz90_1 := blk_frozen BK355.out 1; have hcz91_0 : w88.cell? ⟨gb333, 0, none⟩ = some (.int .u64 a1_0) := (blk_cell BK333.out 0).trans rfl; have hcz91_1 : w88.cell? ⟨gb333, 1, none⟩ = some (.int .u64 a1_1) := (blk_cell BK333.out 1).trans rfl; have hfz91_0 := blk_frozen BK333.out 0; have hfz91_1 := blk_frozen BK333.out 1) | ((with_reducible refine gate_callee (f := 32) rfl ?_); refine goesL_ (some 107) rfl rfl Try.func32 (by kernel_rfl) rfl #[.agg #[.int .u64 a1_0, .int .u64 a1_1]] rfl (by (try simp only [List.map_toArray, List.map_cons, List.map_nil]); first | done | rfl | (simp only [List.length_drop, List.length_take]; rfl)) ?_; (with_reducible refine (wide_Wide_Zero.calls a1_0 a1_1 true _ A48.out).mono ?_); rintro e w92 ⟨rfl, hb⟩; refine ⟨_, rfl, ?_⟩; have n0_ := Aside0.mk (Kd.R_below (by (with_reducible repeat (first | apply Kd.R_alloc | apply Kd.R_drewN | apply Kd.R_drew)); exact (Kd.R_mono (Kd.R_far (p := ⟨gb355, 1, none⟩) (Kd.R_far (p := ⟨gb355, 0, none⟩) (Kd.R_types HO349.out BK355.out (by decide)) (fun _ hk => hk.2) (.int .u64 t353)) (fun _ hk => hk.2) (.int .i64 t354)) (fun _ h_ => h_.1))) hb); have n1_ := Aside0.mk (Kd.R_below (by (with_reducible repeat (first | apply Kd.R_alloc | apply Kd.R_drewN | apply Kd.R_drew)); exact (Kd.R_mono (Kd.R_far (p := ⟨gb355, 1, none⟩) (Kd.R_far (p := ⟨gb355, 0, none⟩) (Kd.R_types HO352.out BK355.out (by decide)) (fun _ hk => hk.2) (.int .u64 t353)) (fun _ hk => hk.2) (.int .i64 t354)) (fun _ h_ => h_.1))) hb); have n2_ := Aside0.mk (blk_below (g := gb333) (o := .cells #[.int .u64 a1_0, .int .u64 a1_1] 42 (0, 0)) (by (with_reducible repeat (first | refine blk_drewN ?_ _ | refine blk_drew ?_ | refine blk_alloc ?_ _)); refine blk_far ?_ NB333_355.out _; (with_reducible repeat (first | refine blk_drewN ?_ _ | refine blk_drew ?_ | refine blk_alloc ?_ _)); refine blk_far ?_ NB333_355.out _; (with_reducible repeat (first | refine blk_drewN ?_ _ | refine blk_drew ?_ | refine blk_alloc ?_ _)); exact BK333.out) hb); have n3_ := Aside0.mk (blk_below (g := gb355) (o := .cells #[.int .u64 t353, .int .i64 t354] 46 (0, 0)) (by (with_reducible repeat (first | refine blk_drewN ?_ _ | refine blk_drew ?_ | refine blk_alloc ?_ _)); refine blk_put (cs := #[.int .u64 t353, .int .i64 0]) ?_ 1 _ rfl; (with_reducible repeat (first | refine blk_drewN ?_ _ | refine blk_drew ?_ | refine blk_alloc ?_ _)); refine blk_put (cs := #[.int .u64 0, .int .i64 0]) ?_ 0 _ rfl; (with_reducible repeat (first | refine blk_drewN ?_ _ | refine blk_drew ?_ | refine blk_alloc ?_ _)); exact BK355.out) hb); have n4_ := Aside0.mk (below_step (by repeat (first | (with_reducible first | exact HB.out | apply below_alloc | apply pw_below_drewN | apply below_drew1 | refine below_set ?_ GE333.out | refine below_set ?_ GE355.out) | exact HB.out)) hb); clear HO349; clear HO352; clear BK333; clear BK355; clear HB; have HO349 := n0_; have HO352 := n1_; have BK333 := n2_; have BK355 := n3_; have HB := n4_; clear n0_ n1_ n2_ n3_ n4_; (try clear hb); (try clear hb2); (try clear hk); (try clear hi)) | ((with_reducible refine gate_callee (f := 17) rfl ?_); refine goesL_ (some 109) rfl rfl Try.func17 (by kernel_rfl) rfl #[.int .u64 t345] rfl (by (try simp only [List.map_toArray, List.map_cons, List.map_nil]); first | done | rfl | (simp only [List.length_drop, List.length_take]; rfl)) ?_; (with_reducible refine (word_Abs.calls t345 t357 _ A50.out).mono ?_); rintro e w' ⟨rfl, ⟨nd, rfl⟩⟩; refine ⟨_, rfl, ?_⟩))
                go_ret
                exact ⟨by first | rfl | (simp [errW_none, errW_some] <;> rfl) | (simp only [← hji7, ← hji8]; first | rfl | (simp [errW_none, errW_some] <;> rfl)) | (simp [*, errW_none, errW_some] <;> rfl), by repeat (first | (with_reducible first | exact HB.out | apply below_alloc | apply pw_below_drewN | apply below_drew1 | refine below_set ?_ GE333.out | refine below_set ?_ GE355.out) | exact HB.out)⟩
            · replace c49 := Bool.eq_false_iff.mpr c49
              subst c49
              have H1 : (if t345 = t353 then (some ((wrap64 (t346)) == t354)) else (some false)) = some r := by rw [if_neg (show ¬ (false = true) by decide)] at H; exact H
              clear H
              have H := H1
              clear H1
              by_cases c93 : t345 = t353
              · rw [if_pos c93] at H
                have c93b0 : (t345 == t353) = true := beq_iff_eq.mpr c93
                have c93b1 : (t345 != t353) = false := bne_eq_false_iff_eq.mpr c93
                clear c93
                obtain rfl := Option.some.inj H
                have hcz94_0 : wc.cell? ⟨gb333, 0, none⟩ = some (.int .u64 a1_0) := (blk_cell BK333.out 0).trans rfl
                have hcz94_1 : wc.cell? ⟨gb333, 1, none⟩ = some (.int .u64 a1_1) := (blk_cell BK333.out 1).trans rfl
                have hfz94_0 := blk_frozen BK333.out 0
                have hfz94_1 := blk_frozen BK333.out 1
                go_wp2_with (first | ((with_reducible refine gate_callee (f := 31) rfl ?_); refine goesL_ (some 94) rfl rfl Try.func31 (by kernel_rfl) rfl #[.bool a0, .agg #[.int .u64 a1_0, .int .u64 a1_1], .int .i64 a2, .bool true] rfl (by (try simp only [List.map_toArray, List.map_cons, List.map_nil]); first | done | rfl | (simp only [List.length_drop, List.length_take]; rfl)) ?_; (with_reducible refine (round_Round.calls kj8 a0 a1_0 a1_1 a2 true t345 t346 _ A43.out).mono ?_); rintro e w95 ⟨rfl, hb⟩; refine ⟨_, rfl, ?_⟩; have n0_ := Aside0.mk (blk_below (g := gb333) (o := .cells #[.int .u64 a1_0, .int .u64 a1_1] 42 (0, 0)) (by (with_reducible repeat (first | refine blk_drewN ?_ _ | refine blk_drew ?_ | refine blk_alloc ?_ _)); exact BK333.out) hb); have n1_ := Aside0.mk (below_step (by repeat (first | (with_reducible first | exact HB.out | apply below_alloc | apply pw_below_drewN | apply below_drew1 | refine below_set ?_ GE333.out) | exact HB.out)) hb); clear BK333; clear HB; have BK333 := n0_; have HB := n1_; clear n0_ n1_; (try clear hb); (try clear hb2); (try clear hk); (try clear hi); have hcz96_0 : w95.cell? ⟨gb333, 0, none⟩ = some (.int .u64 a1_0) := (blk_cell BK333.out 0).trans rfl; have hcz96_1 : w95.cell? ⟨gb333, 1, none⟩ = some (.int .u64 a1_1) := (blk_cell BK333.out 1).trans rfl; have hfz96_0 := blk_frozen BK333.out 0; have hfz96_1 := blk_frozen BK333.out 1) | ((with_reducible refine gate_callee (f := 33) rfl ?_); refine goesL_ (some 98) rfl rfl Try.func33 (by kernel_rfl) rfl #[.agg #[.int .u64 a1_0, .int .u64 a1_1]] rfl (by (try simp only [List.map_toArray, List.map_cons, List.map_nil]); first | done | rfl | (simp only [List.length_drop, List.length_take]; rfl)) ?_; (with_reducible refine (gimballaw03_list.calls kj8 a1_0 a1_1 t347 _ A44.out).mono ?_); rintro e w97 ⟨v348, rfl, ho0, hb⟩; refine ⟨_, rfl, ?_⟩; have n0_ := Aside0.mk (Kd.R_lower ho0 (below_size (by repeat (first | (with_reducible first | exact HB.out | apply below_alloc | apply pw_below_drewN | apply below_drew1 | refine below_set ?_ GE333.out) | exact HB.out)))); have n1_ := Aside0.mk (blk_below (g := gb333) (o := .cells #[.int .u64 a1_0, .int .u64 a1_1] 42 (0, 0)) (by (with_reducible repeat (first | refine blk_drewN ?_ _ | refine blk_drew ?_ | refine blk_alloc ?_ _)); exact BK333.out) hb); have n2_ := Aside0.mk (below_step (by repeat (first | (with_reducible first | exact HB.out | apply below_alloc | apply pw_below_drewN | apply below_drew1 | refine below_set ?_ GE333.out) | exact HB.out)) hb); clear BK333; clear HB; have HO349 := n0_; have BK333 := n1_; have HB := n2_; clear n0_ n1_ n2_; (try clear hb); (try clear hb2); (try clear hk); (try clear hi); (try clear ho0); obtain ⟨Ao98, co98, eo98⟩ := Kd.R_slice HO349.out; subst eo98) | ((with_reducible refine gate_callee (f := 35) rfl ?_); refine goesL_ (some 102) rfl rfl Try.func35 (by kernel_rfl) rfl #[.slice Ao98 t347.length co98, .int .i64 200] rfl (by (try simp only [List.map_toArray, List.map_cons, List.map_nil]); first | done | rfl | (simp only [List.length_drop, List.length_take]; rfl)) ?_; (with_reducible refine (gimbalref02_Up.calls kj8 _ _ t347 200 t350 _ ?side1 ?side2 A46.out).mono ?_); (case side1 => repeat (first | exact (Kd.R_reads' HO349.out).2.2 | (with_reducible refine Kd.C_alloc ?_ _) | (with_reducible refine Kd.C_drewN ?_ _) | (with_reducible refine Kd.C_drew ?_))); (case side2 => exact (Kd.R_reads' HO349.out).2.1); rintro e w99 ⟨v351, rfl, ho0, hb⟩; refine ⟨_, rfl, ?_⟩; have n0_ := Aside0.mk (Kd.R_elder' (by (with_reducible repeat (first | apply Kd.R_alloc | apply Kd.R_drewN | apply Kd.R_drew)); exact HO349.out) (Kd.R_base ho0) hb); have n1_ := Aside0.mk (Kd.R_lower (Kd.R_new' ho0 (Kd.R_lt (by (with_reducible repeat (first | apply Kd.R_alloc | apply Kd.R_drewN | apply Kd.R_drew)); exact HO349.out))) (below_size (by repeat (first | (with_reducible first | exact HB.out | apply below_alloc | apply pw_below_drewN | apply below_drew1 | refine below_set ?_ GE333.out) | exact HB.out)))); have n2_ := Aside0.mk (blk_below (g := gb333) (o := .cells #[.int .u64 a1_0, .int .u64 a1_1] 42 (0, 0)) (by (with_reducible repeat (first | refine blk_drewN ?_ _ | refine blk_drew ?_ | refine blk_alloc ?_ _)); exact BK333.out) hb); have n3_ := Aside0.mk (below_step (by repeat (first | (with_reducible first | exact HB.out | apply below_alloc | apply pw_below_drewN | apply below_drew1 | refine below_set ?_ GE333.out) | exact HB.out)) hb); clear HO349; clear BK333; clear HB; have HO349 := n0_; have HO352 := n1_; have BK333 := n2_; have HB := n3_; clear n0_ n1_ n2_ n3_; (try clear hb); (try clear hb2); (try clear hk); (try clear hi); (try clear ho0); obtain ⟨Ao100, co100, eo100⟩ := Kd.R_slice HO352.out; subst eo100) | ((with_reducible refine gate_callee (f := 34) rfl ?_); refine goesL_ (some 105) rfl rfl Try.func34 (by kernel_rfl) rfl #[.bool a0, .slice Ao100 t350.length co100, .int .i64 (wrap64 (ji8 - 200)), .bool true] rfl (by (try simp only [List.map_toArray, List.map_cons, List.map_nil]); first | done | (rw [show wrap64 (ji8 - 200) = ji8 - 200 from (by have h1_ := hji8_; have h2_ := hji7_; split at h1_ <;> split at h2_ <;> (unfold wrap64; omega))]; rfl) | (simp only [hji8]; rfl) | rfl | (simp only [List.length_drop, List.length_take]; rfl)) ?_; (with_reducible refine (gimbalref03_Round.calls kj8 a0 _ _ t350 (wrap64 (ji8 - 200)) true t353 t354 _ ?side1 ?side2 A47.out).mono ?_); (case side1 => repeat (first | exact (Kd.R_reads' HO352.out).2.2 | (with_reducible refine Kd.C_alloc ?_ _) | (with_reducible refine Kd.C_drewN ?_ _) | (with_reducible refine Kd.C_drew ?_))); (case side2 => exact (Kd.R_reads' HO352.out).2.1); rintro e w101 ⟨rfl, hb⟩; refine ⟨_, rfl, ?_⟩; have n0_ := Aside0.mk (Kd.R_below (by (with_reducible repeat (first | apply Kd.R_alloc | apply Kd.R_drewN | apply Kd.R_drew)); exact HO349.out) hb); have n1_ := Aside0.mk (Kd.R_below (by (with_reducible repeat (first | apply Kd.R_alloc | apply Kd.R_drewN | apply Kd.R_drew)); exact HO352.out) hb); have n2_ := Aside0.mk (blk_below (g := gb333) (o := .cells #[.int .u64 a1_0, .int .u64 a1_1] 42 (0, 0)) (by (with_reducible repeat (first | refine blk_drewN ?_ _ | refine blk_drew ?_ | refine blk_alloc ?_ _)); exact BK333.out) hb); have n3_ := Aside0.mk (below_step (by repeat (first | (with_reducible first | exact HB.out | apply below_alloc | apply pw_below_drewN | apply below_drew1 | refine below_set ?_ GE333.out) | exact HB.out)) hb); clear HO349; clear HO352; clear BK333; clear HB; have HO349 := n0_; have HO352 := n1_; have BK333 := n2_; have HB := n3_; clear n0_ n1_ n2_ n3_; (try clear hb); (try clear hb2); (try clear hk); (try clear hi)) | ((with_reducible refine gate_dst (N := 15) rfl ?_); refine box_event ?hg (N := 15) ?hd (cs := #[.int .u64 0, .int .i64 0]) (t := 46) ?hr ?_; (case hd => rfl); (case hg => rfl); (case hr => first | (go_simp; done) | (go_simp; rfl)); intro gb355 hg w102 hbox hb; have n0_ := Aside0.mk (Kd.R_below (by (with_reducible repeat (first | apply Kd.R_alloc | apply Kd.R_drewN | apply Kd.R_drew)); exact HO349.out) hb); have n1_ := Aside0.mk (Kd.R_below (by (with_reducible repeat (first | apply Kd.R_alloc | apply Kd.R_drewN | apply Kd.R_drew)); exact HO352.out) hb); have n2_ := Aside0.mk (blk_below (g := gb333) (o := .cells #[.int .u64 a1_0, .int .u64 a1_1] 42 (0, 0)) (by (with_reducible repeat (first | refine blk_drewN ?_ _ | refine blk_drew ?_ | refine blk_alloc ?_ _)); exact BK333.out) hb); have n3_ := Aside0.mk (below_step (by repeat (first | (with_reducible first | exact HB.out | apply below_alloc | apply pw_below_drewN | apply below_drew1 | refine below_set ?_ GE333.out) | exact HB.out)) hb); have n4_ := Aside0.mk (hbox); have n5_ := Aside0.mk ((by rw [hg]; exact (below_size (by repeat (first | (with_reducible first | exact HB.out | apply below_alloc | apply pw_below_drewN | apply below_drew1 | refine below_set ?_ GE333.out) | exact HB.out))) : w.heap.size ≤ gb355)); have n6_ := Aside0.mk ((by rw [hg]; exact (below_size (by repeat (first | (with_reducible first | exact HB.out | apply below_alloc | apply pw_below_drewN | apply below_drew1 | refine below_set ?_ GE333.out) | exact HB.out))) : w.heap.size ≤ gb355)); have n7_ := Aside0.mk ((by rw [hg]; exact Nat.ne_of_lt (blk_lt (g := gb333) (o := .cells #[.int .u64 a1_0, .int .u64 a1_1] 42 (0, 0)) (by (with_reducible repeat (first | refine blk_drewN ?_ _ | refine blk_drew ?_ | refine blk_alloc ?_ _)); exact BK333.out)) : gb333 ≠ gb355)); have n8_ := Aside0.mk ((by rw [hg]; exact Nat.ne_of_gt (blk_lt (g := gb333) (o := .cells #[.int .u64 a1_0, .int .u64 a1_1] 42 (0, 0)) (by (with_reducible repeat (first | refine blk_drewN ?_ _ | refine blk_drew ?_ | refine blk_alloc ?_ _)); exact BK333.out)) : gb355 ≠ gb333)); clear HO349; clear HO352; clear BK333; clear HB; have HO349 := n0_; have HO352 := n1_; have BK333 := n2_; have HB := n3_; have BK355 := n4_; have GW355 := n5_; have GE355 := n6_; have NB333_355 := n7_; have NB355_333 := n8_; clear n0_ n1_ n2_ n3_ n4_ n5_ n6_ n7_ n8_; clear hb hbox hg; have hnb103 := NB355_333.out; have hnc103 := NB333_355.out; have hcz104_0 : w102.cell? ⟨gb355, 0, none⟩ = some (.int .u64 0) := (blk_cell BK355.out 0).trans rfl; have hcz104_1 : w102.cell? ⟨gb355, 1, none⟩ = some (.int .i64 0) := (blk_cell BK355.out 1).trans rfl; have hfz104_0 := blk_frozen BK355.out 0; have hfz104_1 := blk_frozen BK355.out 1; have hcz105_0 : w102.cell? ⟨gb333, 0, none⟩ = some (.int .u64 a1_0) := (blk_cell BK333.out 0).trans rfl; have hcz105_1 : w102.cell? ⟨gb333, 1, none⟩ = some (.int .u64 a1_1) := (blk_cell BK333.out 1).trans rfl; have hfz105_0 := blk_frozen BK333.out 0; have hfz105_1 := blk_frozen BK333.out 1) | ((with_reducible refine gate_callee (f := 32) rfl ?_); refine goesL_ (some 107) rfl rfl Try.func32 (by kernel_rfl) rfl #[.agg #[.int .u64 a1_0, .int .u64 a1_1]] rfl (by (try simp only [List.map_toArray, List.map_cons, List.map_nil]); first | done | rfl | (simp only [List.length_drop, List.length_take]; rfl)) ?_; (with_reducible refine (wide_Wide_Zero.calls a1_0 a1_1 false _ A48.out).mono ?_); rintro e w106 ⟨rfl, hb⟩; refine ⟨_, rfl, ?_⟩; have n0_ := Aside0.mk (Kd.R_below (by (with_reducible repeat (first | apply Kd.R_alloc | apply Kd.R_drewN | apply Kd.R_drew)); exact (Kd.R_mono (Kd.R_far (p := ⟨gb355, 1, none⟩) (Kd.R_far (p := ⟨gb355, 0, none⟩) (Kd.R_types HO349.out BK355.out (by decide)) (fun _ hk => hk.2) (.int .u64 t353)) (fun _ hk => hk.2) (.int .i64 t354)) (fun _ h_ => h_.1))) hb); have n1_ := Aside0.mk (Kd.R_below (by (with_reducible repeat (first | apply Kd.R_alloc | apply Kd.R_drewN | apply Kd.R_drew)); exact (Kd.R_mono (Kd.R_far (p := ⟨gb355, 1, none⟩) (Kd.R_far (p := ⟨gb355, 0, none⟩) (Kd.R_types HO352.out BK355.out (by decide)) (fun _ hk => hk.2) (.int .u64 t353)) (fun _ hk => hk.2) (.int .i64 t354)) (fun _ h_ => h_.1))) hb); have n2_ := Aside0.mk (blk_below (g := gb333) (o := .cells #[.int .u64 a1_0, .int .u64 a1_1] 42 (0, 0)) (by (with_reducible repeat (first | refine blk_drewN ?_ _ | refine blk_drew ?_ | refine blk_alloc ?_ _)); refine blk_far ?_ NB333_355.out _; (with_reducible repeat (first | refine blk_drewN ?_ _ | refine blk_drew ?_ | refine blk_alloc ?_ _)); refine blk_far ?_ NB333_355.out _; (with_reducible repeat (first | refine blk_drewN ?_ _ | refine blk_drew ?_ | refine blk_alloc ?_ _)); exact BK333.out) hb); have n3_ := Aside0.mk (blk_below (g := gb355) (o := .cells #[.int .u64 t353, .int .i64 t354] 46 (0, 0)) (by (with_reducible repeat (first | refine blk_drewN ?_ _ | refine blk_drew ?_ | refine blk_alloc ?_ _)); refine blk_put (cs := #[.int .u64 t353, .int .i64 0]) ?_ 1 _ rfl; (with_reducible repeat (first | refine blk_drewN ?_ _ | refine blk_drew ?_ | refine blk_alloc ?_ _)); refine blk_put (cs := #[.int .u64 0, .int .i64 0]) ?_ 0 _ rfl; (with_reducible repeat (first | refine blk_drewN ?_ _ | refine blk_drew ?_ | refine blk_alloc ?_ _)); exact BK355.out) hb); have n4_ := Aside0.mk (below_step (by repeat (first | (with_reducible first | exact HB.out | apply below_alloc | apply pw_below_drewN | apply below_drew1 | refine below_set ?_ GE333.out | refine below_set ?_ GE355.out) | exact HB.out)) hb); clear HO349; clear HO352; clear BK333; clear BK355; clear HB; have HO349 := n0_; have HO352 := n1_; have BK333 := n2_; have BK355 := n3_; have HB := n4_; clear n0_ n1_ n2_ n3_ n4_; (try clear hb); (try clear hb2); (try clear hk); (try clear hi); have hcz107_0 : w106.cell? ⟨gb355, 0, none⟩ = some (.int .u64 t353) := (blk_cell BK355.out 0).trans rfl; have hcz107_1 : w106.cell? ⟨gb355, 1, none⟩ = some (.int .i64 t354) := (blk_cell BK355.out 1).trans rfl; have hfz107_0 := blk_frozen BK355.out 0; have hfz107_1 := blk_frozen BK355.out 1))
                go_ret
                exact ⟨by first | rfl | (simp [errW_none, errW_some] <;> rfl) | (simp only [← hji7, ← hji8]; first | rfl | (simp [errW_none, errW_some] <;> rfl)) | (simp [*, errW_none, errW_some] <;> rfl), by repeat (first | (with_reducible first | exact HB.out | apply below_alloc | apply pw_below_drewN | apply below_drew1 | refine below_set ?_ GE333.out | refine below_set ?_ GE355.out) | exact HB.out)⟩
              · rw [if_neg c93] at H
                have c93b0 : (t345 == t353) = false := beq_eq_false_iff_ne.mpr c93
                have c93b1 : (t345 != t353) = true := bne_iff_ne.mpr c93
                obtain rfl := Option.some.inj H
                have hcz108_0 : wc.cell? ⟨gb333, 0, none⟩ = some (.int .u64 a1_0) := (blk_cell BK333.out 0).trans rfl
                have hcz108_1 : wc.cell? ⟨gb333, 1, none⟩ = some (.int .u64 a1_1) := (blk_cell BK333.out 1).trans rfl
                have hfz108_0 := blk_frozen BK333.out 0
                have hfz108_1 := blk_frozen BK333.out 1
                go_wp2_with (first | ((with_reducible refine gate_callee (f := 31) rfl ?_); refine goesL_ (some 94) rfl rfl Try.func31 (by kernel_rfl) rfl #[.bool a0, .agg #[.int .u64 a1_0, .int .u64 a1_1], .int .i64 a2, .bool true] rfl (by (try simp only [List.map_toArray, List.map_cons, List.map_nil]); first | done | rfl | (simp only [List.length_drop, List.length_take]; rfl)) ?_; (with_reducible refine (round_Round.calls kj8 a0 a1_0 a1_1 a2 true t345 t346 _ A43.out).mono ?_); rintro e w109 ⟨rfl, hb⟩; refine ⟨_, rfl, ?_⟩; have n0_ := Aside0.mk (blk_below (g := gb333) (o := .cells #[.int .u64 a1_0, .int .u64 a1_1] 42 (0, 0)) (by (with_reducible repeat (first | refine blk_drewN ?_ _ | refine blk_drew ?_ | refine blk_alloc ?_ _)); exact BK333.out) hb); have n1_ := Aside0.mk (below_step (by repeat (first | (with_reducible first | exact HB.out | apply below_alloc | apply pw_below_drewN | apply below_drew1 | refine below_set ?_ GE333.out) | exact HB.out)) hb); clear BK333; clear HB; have BK333 := n0_; have HB := n1_; clear n0_ n1_; (try clear hb); (try clear hb2); (try clear hk); (try clear hi); have hcz110_0 : w109.cell? ⟨gb333, 0, none⟩ = some (.int .u64 a1_0) := (blk_cell BK333.out 0).trans rfl; have hcz110_1 : w109.cell? ⟨gb333, 1, none⟩ = some (.int .u64 a1_1) := (blk_cell BK333.out 1).trans rfl; have hfz110_0 := blk_frozen BK333.out 0; have hfz110_1 := blk_frozen BK333.out 1) | ((with_reducible refine gate_callee (f := 33) rfl ?_); refine goesL_ (some 98) rfl rfl Try.func33 (by kernel_rfl) rfl #[.agg #[.int .u64 a1_0, .int .u64 a1_1]] rfl (by (try simp only [List.map_toArray, List.map_cons, List.map_nil]); first | done | rfl | (simp only [List.length_drop, List.length_take]; rfl)) ?_; (with_reducible refine (gimballaw03_list.calls kj8 a1_0 a1_1 t347 _ A44.out).mono ?_); rintro e w111 ⟨v348, rfl, ho0, hb⟩; refine ⟨_, rfl, ?_⟩; have n0_ := Aside0.mk (Kd.R_lower ho0 (below_size (by repeat (first | (with_reducible first | exact HB.out | apply below_alloc | apply pw_below_drewN | apply below_drew1 | refine below_set ?_ GE333.out) | exact HB.out)))); have n1_ := Aside0.mk (blk_below (g := gb333) (o := .cells #[.int .u64 a1_0, .int .u64 a1_1] 42 (0, 0)) (by (with_reducible repeat (first | refine blk_drewN ?_ _ | refine blk_drew ?_ | refine blk_alloc ?_ _)); exact BK333.out) hb); have n2_ := Aside0.mk (below_step (by repeat (first | (with_reducible first | exact HB.out | apply below_alloc | apply pw_below_drewN | apply below_drew1 | refine below_set ?_ GE333.out) | exact HB.out)) hb); clear BK333; clear HB; have HO349 := n0_; have BK333 := n1_; have HB := n2_; clear n0_ n1_ n2_; (try clear hb); (try clear hb2); (try clear hk); (try clear hi); (try clear ho0); obtain ⟨Ao112, co112, eo112⟩ := Kd.R_slice HO349.out; subst eo112) | ((with_reducible refine gate_callee (f := 35) rfl ?_); refine goesL_ (some 102) rfl rfl Try.func35 (by kernel_rfl) rfl #[.slice Ao112 t347.length co112, .int .i64 200] rfl (by (try simp only [List.map_toArray, List.map_cons, List.map_nil]); first | done | rfl | (simp only [List.length_drop, List.length_take]; rfl)) ?_; (with_reducible refine (gimbalref02_Up.calls kj8 _ _ t347 200 t350 _ ?side1 ?side2 A46.out).mono ?_); (case side1 => repeat (first | exact (Kd.R_reads' HO349.out).2.2 | (with_reducible refine Kd.C_alloc ?_ _) | (with_reducible refine Kd.C_drewN ?_ _) | (with_reducible refine Kd.C_drew ?_))); (case side2 => exact (Kd.R_reads' HO349.out).2.1); rintro e w113 ⟨v351, rfl, ho0, hb⟩; refine ⟨_, rfl, ?_⟩; have n0_ := Aside0.mk (Kd.R_elder' (by (with_reducible repeat (first | apply Kd.R_alloc | apply Kd.R_drewN | apply Kd.R_drew)); exact HO349.out) (Kd.R_base ho0) hb); have n1_ := Aside0.mk (Kd.R_lower (Kd.R_new' ho0 (Kd.R_lt (by (with_reducible repeat (first | apply Kd.R_alloc | apply Kd.R_drewN | apply Kd.R_drew)); exact HO349.out))) (below_size (by repeat (first | (with_reducible first | exact HB.out | apply below_alloc | apply pw_below_drewN | apply below_drew1 | refine below_set ?_ GE333.out) | exact HB.out)))); have n2_ := Aside0.mk (blk_below (g := gb333) (o := .cells #[.int .u64 a1_0, .int .u64 a1_1] 42 (0, 0)) (by (with_reducible repeat (first | refine blk_drewN ?_ _ | refine blk_drew ?_ | refine blk_alloc ?_ _)); exact BK333.out) hb); have n3_ := Aside0.mk (below_step (by repeat (first | (with_reducible first | exact HB.out | apply below_alloc | apply pw_below_drewN | apply below_drew1 | refine below_set ?_ GE333.out) | exact HB.out)) hb); clear HO349; clear BK333; clear HB; have HO349 := n0_; have HO352 := n1_; have BK333 := n2_; have HB := n3_; clear n0_ n1_ n2_ n3_; (try clear hb); (try clear hb2); (try clear hk); (try clear hi); (try clear ho0); obtain ⟨Ao114, co114, eo114⟩ := Kd.R_slice HO352.out; subst eo114) | ((with_reducible refine gate_callee (f := 34) rfl ?_); refine goesL_ (some 105) rfl rfl Try.func34 (by kernel_rfl) rfl #[.bool a0, .slice Ao114 t350.length co114, .int .i64 (wrap64 (ji8 - 200)), .bool true] rfl (by (try simp only [List.map_toArray, List.map_cons, List.map_nil]); first | done | (rw [show wrap64 (ji8 - 200) = ji8 - 200 from (by have h1_ := hji8_; have h2_ := hji7_; split at h1_ <;> split at h2_ <;> (unfold wrap64; omega))]; rfl) | (simp only [hji8]; rfl) | rfl | (simp only [List.length_drop, List.length_take]; rfl)) ?_; (with_reducible refine (gimbalref03_Round.calls kj8 a0 _ _ t350 (wrap64 (ji8 - 200)) true t353 t354 _ ?side1 ?side2 A47.out).mono ?_); (case side1 => repeat (first | exact (Kd.R_reads' HO352.out).2.2 | (with_reducible refine Kd.C_alloc ?_ _) | (with_reducible refine Kd.C_drewN ?_ _) | (with_reducible refine Kd.C_drew ?_))); (case side2 => exact (Kd.R_reads' HO352.out).2.1); rintro e w115 ⟨rfl, hb⟩; refine ⟨_, rfl, ?_⟩; have n0_ := Aside0.mk (Kd.R_below (by (with_reducible repeat (first | apply Kd.R_alloc | apply Kd.R_drewN | apply Kd.R_drew)); exact HO349.out) hb); have n1_ := Aside0.mk (Kd.R_below (by (with_reducible repeat (first | apply Kd.R_alloc | apply Kd.R_drewN | apply Kd.R_drew)); exact HO352.out) hb); have n2_ := Aside0.mk (blk_below (g := gb333) (o := .cells #[.int .u64 a1_0, .int .u64 a1_1] 42 (0, 0)) (by (with_reducible repeat (first | refine blk_drewN ?_ _ | refine blk_drew ?_ | refine blk_alloc ?_ _)); exact BK333.out) hb); have n3_ := Aside0.mk (below_step (by repeat (first | (with_reducible first | exact HB.out | apply below_alloc | apply pw_below_drewN | apply below_drew1 | refine below_set ?_ GE333.out) | exact HB.out)) hb); clear HO349; clear HO352; clear BK333; clear HB; have HO349 := n0_; have HO352 := n1_; have BK333 := n2_; have HB := n3_; clear n0_ n1_ n2_ n3_; (try clear hb); (try clear hb2); (try clear hk); (try clear hi)) | ((with_reducible refine gate_dst (N := 15) rfl ?_); refine box_event ?hg (N := 15) ?hd (cs := #[.int .u64 0, .int .i64 0]) (t := 46) ?hr ?_; (case hd => rfl); (case hg => rfl); (case hr => first | (go_simp; done) | (go_simp; rfl)); intro gb355 hg w116 hbox hb; have n0_ := Aside0.mk (Kd.R_below (by (with_reducible repeat (first | apply Kd.R_alloc | apply Kd.R_drewN | apply Kd.R_drew)); exact HO349.out) hb); have n1_ := Aside0.mk (Kd.R_below (by (with_reducible repeat (first | apply Kd.R_alloc | apply Kd.R_drewN | apply Kd.R_drew)); exact HO352.out) hb); have n2_ := Aside0.mk (blk_below (g := gb333) (o := .cells #[.int .u64 a1_0, .int .u64 a1_1] 42 (0, 0)) (by (with_reducible repeat (first | refine blk_drewN ?_ _ | refine blk_drew ?_ | refine blk_alloc ?_ _)); exact BK333.out) hb); have n3_ := Aside0.mk (below_step (by repeat (first | (with_reducible first | exact HB.out | apply below_alloc | apply pw_below_drewN | apply below_drew1 | refine below_set ?_ GE333.out) | exact HB.out)) hb); have n4_ := Aside0.mk (hbox); have n5_ := Aside0.mk ((by rw [hg]; exact (below_size (by repeat (first | (with_reducible first | exact HB.out | apply below_alloc | apply pw_below_drewN | apply below_drew1 | refine below_set ?_ GE333.out) | exact HB.out))) : w.heap.size ≤ gb355)); have n6_ := Aside0.mk ((by rw [hg]; exact (below_size (by repeat (first | (with_reducible first | exact HB.out | apply below_alloc | apply pw_below_drewN | apply below_drew1 | refine below_set ?_ GE333.out) | exact HB.out))) : w.heap.size ≤ gb355)); have n7_ := Aside0.mk ((by rw [hg]; exact Nat.ne_of_lt (blk_lt (g := gb333) (o := .cells #[.int .u64 a1_0, .int .u64 a1_1] 42 (0, 0)) (by (with_reducible repeat (first | refine blk_drewN ?_ _ | refine blk_drew ?_ | refine blk_alloc ?_ _)); exact BK333.out)) : gb333 ≠ gb355)); have n8_ := Aside0.mk ((by rw [hg]; exact Nat.ne_of_gt (blk_lt (g := gb333) (o := .cells #[.int .u64 a1_0, .int .u64 a1_1] 42 (0, 0)) (by (with_reducible repeat (first | refine blk_drewN ?_ _ | refine blk_drew ?_ | refine blk_alloc ?_ _)); exact BK333.out)) : gb355 ≠ gb333)); clear HO349; clear HO352; clear BK333; clear HB; have HO349 := n0_; have HO352 := n1_; have BK333 := n2_; have HB := n3_; have BK355 := n4_; have GW355 := n5_; have GE355 := n6_; have NB333_355 := n7_; have NB355_333 := n8_; clear n0_ n1_ n2_ n3_ n4_ n5_ n6_ n7_ n8_; clear hb hbox hg; have hnb117 := NB355_333.out; have hnc117 := NB333_355.out; have hcz118_0 : w116.cell? ⟨gb355, 0, none⟩ = some (.int .u64 0) := (blk_cell BK355.out 0).trans rfl; have hcz118_1 : w116.cell? ⟨gb355, 1, none⟩ = some (.int .i64 0) := (blk_cell BK355.out 1).trans rfl; have hfz118_0 := blk_frozen BK355.out 0; have hfz118_1 := blk_frozen BK355.out 1; have hcz119_0 : w116.cell? ⟨gb333, 0, none⟩ = some (.int .u64 a1_0) := (blk_cell BK333.out 0).trans rfl; have hcz119_1 : w116.cell? ⟨gb333, 1, none⟩ = some (.int .u64 a1_1) := (blk_cell BK333.out 1).trans rfl; have hfz119_0 := blk_frozen BK333.out 0; have hfz119_1 := blk_frozen BK333.out 1) | ((with_reducible refine gate_callee (f := 32) rfl ?_); refine goesL_ (some 107) rfl rfl Try.func32 (by kernel_rfl) rfl #[.agg #[.int .u64 a1_0, .int .u64 a1_1]] rfl (by (try simp only [List.map_toArray, List.map_cons, List.map_nil]); first | done | rfl | (simp only [List.length_drop, List.length_take]; rfl)) ?_; (with_reducible refine (wide_Wide_Zero.calls a1_0 a1_1 false _ A48.out).mono ?_); rintro e w120 ⟨rfl, hb⟩; refine ⟨_, rfl, ?_⟩; have n0_ := Aside0.mk (Kd.R_below (by (with_reducible repeat (first | apply Kd.R_alloc | apply Kd.R_drewN | apply Kd.R_drew)); exact (Kd.R_mono (Kd.R_far (p := ⟨gb355, 1, none⟩) (Kd.R_far (p := ⟨gb355, 0, none⟩) (Kd.R_types HO349.out BK355.out (by decide)) (fun _ hk => hk.2) (.int .u64 t353)) (fun _ hk => hk.2) (.int .i64 t354)) (fun _ h_ => h_.1))) hb); have n1_ := Aside0.mk (Kd.R_below (by (with_reducible repeat (first | apply Kd.R_alloc | apply Kd.R_drewN | apply Kd.R_drew)); exact (Kd.R_mono (Kd.R_far (p := ⟨gb355, 1, none⟩) (Kd.R_far (p := ⟨gb355, 0, none⟩) (Kd.R_types HO352.out BK355.out (by decide)) (fun _ hk => hk.2) (.int .u64 t353)) (fun _ hk => hk.2) (.int .i64 t354)) (fun _ h_ => h_.1))) hb); have n2_ := Aside0.mk (blk_below (g := gb333) (o := .cells #[.int .u64 a1_0, .int .u64 a1_1] 42 (0, 0)) (by (with_reducible repeat (first | refine blk_drewN ?_ _ | refine blk_drew ?_ | refine blk_alloc ?_ _)); refine blk_far ?_ NB333_355.out _; (with_reducible repeat (first | refine blk_drewN ?_ _ | refine blk_drew ?_ | refine blk_alloc ?_ _)); refine blk_far ?_ NB333_355.out _; (with_reducible repeat (first | refine blk_drewN ?_ _ | refine blk_drew ?_ | refine blk_alloc ?_ _)); exact BK333.out) hb); have n3_ := Aside0.mk (blk_below (g := gb355) (o := .cells #[.int .u64 t353, .int .i64 t354] 46 (0, 0)) (by (with_reducible repeat (first | refine blk_drewN ?_ _ | refine blk_drew ?_ | refine blk_alloc ?_ _)); refine blk_put (cs := #[.int .u64 t353, .int .i64 0]) ?_ 1 _ rfl; (with_reducible repeat (first | refine blk_drewN ?_ _ | refine blk_drew ?_ | refine blk_alloc ?_ _)); refine blk_put (cs := #[.int .u64 0, .int .i64 0]) ?_ 0 _ rfl; (with_reducible repeat (first | refine blk_drewN ?_ _ | refine blk_drew ?_ | refine blk_alloc ?_ _)); exact BK355.out) hb); have n4_ := Aside0.mk (below_step (by repeat (first | (with_reducible first | exact HB.out | apply below_alloc | apply pw_below_drewN | apply below_drew1 | refine below_set ?_ GE333.out | refine below_set ?_ GE355.out) | exact HB.out)) hb); clear HO349; clear HO352; clear BK333; clear BK355; clear HB; have HO349 := n0_; have HO352 := n1_; have BK333 := n2_; have BK355 := n3_; have HB := n4_; clear n0_ n1_ n2_ n3_ n4_; (try clear hb); (try clear hb2); (try clear hk); (try clear hi); have hcz121_0 : w120.cell? ⟨gb355, 0, none⟩ = some (.int .u64 t353) := (blk_cell BK355.out 0).trans rfl; have hcz121_1 : w120.cell? ⟨gb355, 1, none⟩ = some (.int .i64 t354) := (blk_cell BK355.out 1).trans rfl; have hfz121_0 := blk_frozen BK355.out 0; have hfz121_1 := blk_frozen BK355.out 1))
                go_ret
                exact ⟨by first | rfl | (simp [errW_none, errW_some] <;> rfl) | (simp only [← hji7, ← hji8]; first | rfl | (simp [errW_none, errW_some] <;> rfl)) | (simp [*, errW_none, errW_some] <;> rfl), by repeat (first | (with_reducible first | exact HB.out | apply below_alloc | apply pw_below_drewN | apply below_drew1 | refine below_set ?_ GE333.out | refine below_set ?_ GE355.out) | exact HB.out)⟩
          · replace c45 := Bool.eq_false_iff.mpr c45
            subst c45
            have H1 : ((gimbalref03_Round.f kj8 a0 t347 ji8 false).bind fun bt359 => (if t345 = bt359.1 then (some ((wrap64 (t346)) == bt359.2)) else (some false))) = some r := by rw [if_neg (show ¬ (false = true) by decide)] at H; exact H
            clear H
            have H := H1
            clear H1
            replace H := Option.bind_eq_some_iff.mp H
            obtain ⟨⟨t359, t360⟩, A1220, H⟩ := H
            replace H : (if t345 = t359 then (some ((wrap64 (t346)) == t360)) else (some false)) = some r := H
            have A122 := Aside0.mk A1220
            clear A1220
            by_cases c123 : t345 = t359
            · rw [if_pos c123] at H
              have c123b0 : (t345 == t359) = true := beq_iff_eq.mpr c123
              have c123b1 : (t345 != t359) = false := bne_eq_false_iff_eq.mpr c123
              clear c123
              obtain rfl := Option.some.inj H
              have hcz124_0 : wc.cell? ⟨gb333, 0, none⟩ = some (.int .u64 a1_0) := (blk_cell BK333.out 0).trans rfl
              have hcz124_1 : wc.cell? ⟨gb333, 1, none⟩ = some (.int .u64 a1_1) := (blk_cell BK333.out 1).trans rfl
              have hfz124_0 := blk_frozen BK333.out 0
              have hfz124_1 := blk_frozen BK333.out 1
              go_wp2_with (first | ((with_reducible refine gate_callee (f := 31) rfl ?_); refine goesL_ (some 94) rfl rfl Try.func31 (by kernel_rfl) rfl #[.bool a0, .agg #[.int .u64 a1_0, .int .u64 a1_1], .int .i64 a2, .bool false] rfl (by (try simp only [List.map_toArray, List.map_cons, List.map_nil]); first | done | rfl | (simp only [List.length_drop, List.length_take]; rfl)) ?_; (with_reducible refine (round_Round.calls kj8 a0 a1_0 a1_1 a2 false t345 t346 _ A43.out).mono ?_); rintro e w125 ⟨rfl, hb⟩; refine ⟨_, rfl, ?_⟩; have n0_ := Aside0.mk (blk_below (g := gb333) (o := .cells #[.int .u64 a1_0, .int .u64 a1_1] 42 (0, 0)) (by (with_reducible repeat (first | refine blk_drewN ?_ _ | refine blk_drew ?_ | refine blk_alloc ?_ _)); exact BK333.out) hb); have n1_ := Aside0.mk (below_step (by repeat (first | (with_reducible first | exact HB.out | apply below_alloc | apply pw_below_drewN | apply below_drew1 | refine below_set ?_ GE333.out) | exact HB.out)) hb); clear BK333; clear HB; have BK333 := n0_; have HB := n1_; clear n0_ n1_; (try clear hb); (try clear hb2); (try clear hk); (try clear hi); have hcz126_0 : w125.cell? ⟨gb333, 0, none⟩ = some (.int .u64 a1_0) := (blk_cell BK333.out 0).trans rfl; have hcz126_1 : w125.cell? ⟨gb333, 1, none⟩ = some (.int .u64 a1_1) := (blk_cell BK333.out 1).trans rfl; have hfz126_0 := blk_frozen BK333.out 0; have hfz126_1 := blk_frozen BK333.out 1) | ((with_reducible refine gate_callee (f := 33) rfl ?_); refine goesL_ (some 98) rfl rfl Try.func33 (by kernel_rfl) rfl #[.agg #[.int .u64 a1_0, .int .u64 a1_1]] rfl (by (try simp only [List.map_toArray, List.map_cons, List.map_nil]); first | done | rfl | (simp only [List.length_drop, List.length_take]; rfl)) ?_; (with_reducible refine (gimballaw03_list.calls kj8 a1_0 a1_1 t347 _ A44.out).mono ?_); rintro e w127 ⟨v348, rfl, ho0, hb⟩; refine ⟨_, rfl, ?_⟩; have n0_ := Aside0.mk (Kd.R_lower ho0 (below_size (by repeat (first | (with_reducible first | exact HB.out | apply below_alloc | apply pw_below_drewN | apply below_drew1 | refine below_set ?_ GE333.out) | exact HB.out)))); have n1_ := Aside0.mk (blk_below (g := gb333) (o := .cells #[.int .u64 a1_0, .int .u64 a1_1] 42 (0, 0)) (by (with_reducible repeat (first | refine blk_drewN ?_ _ | refine blk_drew ?_ | refine blk_alloc ?_ _)); exact BK333.out) hb); have n2_ := Aside0.mk (below_step (by repeat (first | (with_reducible first | exact HB.out | apply below_alloc | apply pw_below_drewN | apply below_drew1 | refine below_set ?_ GE333.out) | exact HB.out)) hb); clear BK333; clear HB; have HO349 := n0_; have BK333 := n1_; have HB := n2_; clear n0_ n1_ n2_; (try clear hb); (try clear hb2); (try clear hk); (try clear hi); (try clear ho0); obtain ⟨Ao128, co128, eo128⟩ := Kd.R_slice HO349.out; subst eo128) | ((with_reducible refine gate_callee (f := 34) rfl ?_); refine goesL_ (some 135) rfl rfl Try.func34 (by kernel_rfl) rfl #[.bool a0, .slice Ao128 t347.length co128, .int .i64 ji8, .bool false] rfl (by (try simp only [List.map_toArray, List.map_cons, List.map_nil]); first | done | (simp only [hji8]; rfl) | rfl | (simp only [List.length_drop, List.length_take]; rfl)) ?_; (with_reducible refine (gimbalref03_Round.calls kj8 a0 _ _ t347 ji8 false t359 t360 _ ?side1 ?side2 A122.out).mono ?_); (case side1 => repeat (first | exact (Kd.R_reads' HO349.out).2.2 | (with_reducible refine Kd.C_alloc ?_ _) | (with_reducible refine Kd.C_drewN ?_ _) | (with_reducible refine Kd.C_drew ?_))); (case side2 => exact (Kd.R_reads' HO349.out).2.1); rintro e w129 ⟨rfl, hb⟩; refine ⟨_, rfl, ?_⟩; have n0_ := Aside0.mk (Kd.R_below (by (with_reducible repeat (first | apply Kd.R_alloc | apply Kd.R_drewN | apply Kd.R_drew)); exact HO349.out) hb); have n1_ := Aside0.mk (blk_below (g := gb333) (o := .cells #[.int .u64 a1_0, .int .u64 a1_1] 42 (0, 0)) (by (with_reducible repeat (first | refine blk_drewN ?_ _ | refine blk_drew ?_ | refine blk_alloc ?_ _)); exact BK333.out) hb); have n2_ := Aside0.mk (below_step (by repeat (first | (with_reducible first | exact HB.out | apply below_alloc | apply pw_below_drewN | apply below_drew1 | refine below_set ?_ GE333.out) | exact HB.out)) hb); clear HO349; clear BK333; clear HB; have HO349 := n0_; have BK333 := n1_; have HB := n2_; clear n0_ n1_ n2_; (try clear hb); (try clear hb2); (try clear hk); (try clear hi)) | ((with_reducible refine gate_dst (N := 16) rfl ?_); refine box_event ?hg (N := 16) ?hd (cs := #[.int .u64 0, .int .i64 0]) (t := 46) ?hr ?_; (case hd => rfl); (case hg => rfl); (case hr => first | (go_simp; done) | (go_simp; rfl)); intro gb361 hg w130 hbox hb; have n0_ := Aside0.mk (Kd.R_below (by (with_reducible repeat (first | apply Kd.R_alloc | apply Kd.R_drewN | apply Kd.R_drew)); exact HO349.out) hb); have n1_ := Aside0.mk (blk_below (g := gb333) (o := .cells #[.int .u64 a1_0, .int .u64 a1_1] 42 (0, 0)) (by (with_reducible repeat (first | refine blk_drewN ?_ _ | refine blk_drew ?_ | refine blk_alloc ?_ _)); exact BK333.out) hb); have n2_ := Aside0.mk (below_step (by repeat (first | (with_reducible first | exact HB.out | apply below_alloc | apply pw_below_drewN | apply below_drew1 | refine below_set ?_ GE333.out) | exact HB.out)) hb); have n3_ := Aside0.mk (hbox); have n4_ := Aside0.mk ((by rw [hg]; exact (below_size (by repeat (first | (with_reducible first | exact HB.out | apply below_alloc | apply pw_below_drewN | apply below_drew1 | refine below_set ?_ GE333.out) | exact HB.out))) : w.heap.size ≤ gb361)); have n5_ := Aside0.mk ((by rw [hg]; exact (below_size (by repeat (first | (with_reducible first | exact HB.out | apply below_alloc | apply pw_below_drewN | apply below_drew1 | refine below_set ?_ GE333.out) | exact HB.out))) : w.heap.size ≤ gb361)); have n6_ := Aside0.mk ((by rw [hg]; exact Nat.ne_of_lt (blk_lt (g := gb333) (o := .cells #[.int .u64 a1_0, .int .u64 a1_1] 42 (0, 0)) (by (with_reducible repeat (first | refine blk_drewN ?_ _ | refine blk_drew ?_ | refine blk_alloc ?_ _)); exact BK333.out)) : gb333 ≠ gb361)); have n7_ := Aside0.mk ((by rw [hg]; exact Nat.ne_of_gt (blk_lt (g := gb333) (o := .cells #[.int .u64 a1_0, .int .u64 a1_1] 42 (0, 0)) (by (with_reducible repeat (first | refine blk_drewN ?_ _ | refine blk_drew ?_ | refine blk_alloc ?_ _)); exact BK333.out)) : gb361 ≠ gb333)); clear HO349; clear BK333; clear HB; have HO349 := n0_; have BK333 := n1_; have HB := n2_; have BK361 := n3_; have GW361 := n4_; have GE361 := n5_; have NB333_361 := n6_; have NB361_333 := n7_; clear n0_ n1_ n2_ n3_ n4_ n5_ n6_ n7_; clear hb hbox hg; have hnb131 := NB361_333.out; have hnc131 := NB333_361.out; have hcz132_0 : w130.cell? ⟨gb361, 0, none⟩ = some (.int .u64 0) := (blk_cell BK361.out 0).trans rfl; have hcz132_1 : w130.cell? ⟨gb361, 1, none⟩ = some (.int .i64 0) := (blk_cell BK361.out 1).trans rfl; have hfz132_0 := blk_frozen BK361.out 0; have hfz132_1 := blk_frozen BK361.out 1))
              go_ret
              exact ⟨by first | rfl | (simp [errW_none, errW_some] <;> rfl) | (simp only [← hji7, ← hji8]; first | rfl | (simp [errW_none, errW_some] <;> rfl)) | (simp [*, errW_none, errW_some] <;> rfl), by repeat (first | (with_reducible first | exact HB.out | apply below_alloc | apply pw_below_drewN | apply below_drew1 | refine below_set ?_ GE333.out | refine below_set ?_ GE361.out) | exact HB.out)⟩
            · rw [if_neg c123] at H
              have c123b0 : (t345 == t359) = false := beq_eq_false_iff_ne.mpr c123
              have c123b1 : (t345 != t359) = true := bne_iff_ne.mpr c123
              obtain rfl := Option.some.inj H
              have hcz133_0 : wc.cell? ⟨gb333, 0, none⟩ = some (.int .u64 a1_0) := (blk_cell BK333.out 0).trans rfl
              have hcz133_1 : wc.cell? ⟨gb333, 1, none⟩ = some (.int .u64 a1_1) := (blk_cell BK333.out 1).trans rfl
              have hfz133_0 := blk_frozen BK333.out 0
              have hfz133_1 := blk_frozen BK333.out 1
              go_wp2_with (first | ((with_reducible refine gate_callee (f := 31) rfl ?_); refine goesL_ (some 94) rfl rfl Try.func31 (by kernel_rfl) rfl #[.bool a0, .agg #[.int .u64 a1_0, .int .u64 a1_1], .int .i64 a2, .bool false] rfl (by (try simp only [List.map_toArray, List.map_cons, List.map_nil]); first | done | rfl | (simp only [List.length_drop, List.length_take]; rfl)) ?_; (with_reducible refine (round_Round.calls kj8 a0 a1_0 a1_1 a2 false t345 t346 _ A43.out).mono ?_); rintro e w134 ⟨rfl, hb⟩; refine ⟨_, rfl, ?_⟩; have n0_ := Aside0.mk (blk_below (g := gb333) (o := .cells #[.int .u64 a1_0, .int .u64 a1_1] 42 (0, 0)) (by (with_reducible repeat (first | refine blk_drewN ?_ _ | refine blk_drew ?_ | refine blk_alloc ?_ _)); exact BK333.out) hb); have n1_ := Aside0.mk (below_step (by repeat (first | (with_reducible first | exact HB.out | apply below_alloc | apply pw_below_drewN | apply below_drew1 | refine below_set ?_ GE333.out) | exact HB.out)) hb); clear BK333; clear HB; have BK333 := n0_; have HB := n1_; clear n0_ n1_; (try clear hb); (try clear hb2); (try clear hk); (try clear hi); have hcz135_0 : w134.cell? ⟨gb333, 0, none⟩ = some (.int .u64 a1_0) := (blk_cell BK333.out 0).trans rfl; have hcz135_1 : w134.cell? ⟨gb333, 1, none⟩ = some (.int .u64 a1_1) := (blk_cell BK333.out 1).trans rfl; have hfz135_0 := blk_frozen BK333.out 0; have hfz135_1 := blk_frozen BK333.out 1) | ((with_reducible refine gate_callee (f := 33) rfl ?_); refine goesL_ (some 98) rfl rfl Try.func33 (by kernel_rfl) rfl #[.agg #[.int .u64 a1_0, .int .u64 a1_1]] rfl (by (try simp only [List.map_toArray, List.map_cons, List.map_nil]); first | done | rfl | (simp only [List.length_drop, List.length_take]; rfl)) ?_; (with_reducible refine (gimballaw03_list.calls kj8 a1_0 a1_1 t347 _ A44.out).mono ?_); rintro e w136 ⟨v348, rfl, ho0, hb⟩; refine ⟨_, rfl, ?_⟩; have n0_ := Aside0.mk (Kd.R_lower ho0 (below_size (by repeat (first | (with_reducible first | exact HB.out | apply below_alloc | apply pw_below_drewN | apply below_drew1 | refine below_set ?_ GE333.out) | exact HB.out)))); have n1_ := Aside0.mk (blk_below (g := gb333) (o := .cells #[.int .u64 a1_0, .int .u64 a1_1] 42 (0, 0)) (by (with_reducible repeat (first | refine blk_drewN ?_ _ | refine blk_drew ?_ | refine blk_alloc ?_ _)); exact BK333.out) hb); have n2_ := Aside0.mk (below_step (by repeat (first | (with_reducible first | exact HB.out | apply below_alloc | apply pw_below_drewN | apply below_drew1 | refine below_set ?_ GE333.out) | exact HB.out)) hb); clear BK333; clear HB; have HO349 := n0_; have BK333 := n1_; have HB := n2_; clear n0_ n1_ n2_; (try clear hb); (try clear hb2); (try clear hk); (try clear hi); (try clear ho0); obtain ⟨Ao137, co137, eo137⟩ := Kd.R_slice HO349.out; subst eo137) | ((with_reducible refine gate_callee (f := 34) rfl ?_); refine goesL_ (some 135) rfl rfl Try.func34 (by kernel_rfl) rfl #[.bool a0, .slice Ao137 t347.length co137, .int .i64 ji8, .bool false] rfl (by (try simp only [List.map_toArray, List.map_cons, List.map_nil]); first | done | (simp only [hji8]; rfl) | rfl | (simp only [List.length_drop, List.length_take]; rfl)) ?_; (with_reducible refine (gimbalref03_Round.calls kj8 a0 _ _ t347 ji8 false t359 t360 _ ?side1 ?side2 A122.out).mono ?_); (case side1 => repeat (first | exact (Kd.R_reads' HO349.out).2.2 | (with_reducible refine Kd.C_alloc ?_ _) | (with_reducible refine Kd.C_drewN ?_ _) | (with_reducible refine Kd.C_drew ?_))); (case side2 => exact (Kd.R_reads' HO349.out).2.1); rintro e w138 ⟨rfl, hb⟩; refine ⟨_, rfl, ?_⟩; have n0_ := Aside0.mk (Kd.R_below (by (with_reducible repeat (first | apply Kd.R_alloc | apply Kd.R_drewN | apply Kd.R_drew)); exact HO349.out) hb); have n1_ := Aside0.mk (blk_below (g := gb333) (o := .cells #[.int .u64 a1_0, .int .u64 a1_1] 42 (0, 0)) (by (with_reducible repeat (first | refine blk_drewN ?_ _ | refine blk_drew ?_ | refine blk_alloc ?_ _)); exact BK333.out) hb); have n2_ := Aside0.mk (below_step (by repeat (first | (with_reducible first | exact HB.out | apply below_alloc | apply pw_below_drewN | apply below_drew1 | refine below_set ?_ GE333.out) | exact HB.out)) hb); clear HO349; clear BK333; clear HB; have HO349 := n0_; have BK333 := n1_; have HB := n2_; clear n0_ n1_ n2_; (try clear hb); (try clear hb2); (try clear hk); (try clear hi)) | ((with_reducible refine gate_dst (N := 16) rfl ?_); refine box_event ?hg (N := 16) ?hd (cs := #[.int .u64 0, .int .i64 0]) (t := 46) ?hr ?_; (case hd => rfl); (case hg => rfl); (case hr => first | (go_simp; done) | (go_simp; rfl)); intro gb361 hg w139 hbox hb; have n0_ := Aside0.mk (Kd.R_below (by (with_reducible repeat (first | apply Kd.R_alloc | apply Kd.R_drewN | apply Kd.R_drew)); exact HO349.out) hb); have n1_ := Aside0.mk (blk_below (g := gb333) (o := .cells #[.int .u64 a1_0, .int .u64 a1_1] 42 (0, 0)) (by (with_reducible repeat (first | refine blk_drewN ?_ _ | refine blk_drew ?_ | refine blk_alloc ?_ _)); exact BK333.out) hb); have n2_ := Aside0.mk (below_step (by repeat (first | (with_reducible first | exact HB.out | apply below_alloc | apply pw_below_drewN | apply below_drew1 | refine below_set ?_ GE333.out) | exact HB.out)) hb); have n3_ := Aside0.mk (hbox); have n4_ := Aside0.mk ((by rw [hg]; exact (below_size (by repeat (first | (with_reducible first | exact HB.out | apply below_alloc | apply pw_below_drewN | apply below_drew1 | refine below_set ?_ GE333.out) | exact HB.out))) : w.heap.size ≤ gb361)); have n5_ := Aside0.mk ((by rw [hg]; exact (below_size (by repeat (first | (with_reducible first | exact HB.out | apply below_alloc | apply pw_below_drewN | apply below_drew1 | refine below_set ?_ GE333.out) | exact HB.out))) : w.heap.size ≤ gb361)); have n6_ := Aside0.mk ((by rw [hg]; exact Nat.ne_of_lt (blk_lt (g := gb333) (o := .cells #[.int .u64 a1_0, .int .u64 a1_1] 42 (0, 0)) (by (with_reducible repeat (first | refine blk_drewN ?_ _ | refine blk_drew ?_ | refine blk_alloc ?_ _)); exact BK333.out)) : gb333 ≠ gb361)); have n7_ := Aside0.mk ((by rw [hg]; exact Nat.ne_of_gt (blk_lt (g := gb333) (o := .cells #[.int .u64 a1_0, .int .u64 a1_1] 42 (0, 0)) (by (with_reducible repeat (first | refine blk_drewN ?_ _ | refine blk_drew ?_ | refine blk_alloc ?_ _)); exact BK333.out)) : gb361 ≠ gb333)); clear HO349; clear BK333; clear HB; have HO349 := n0_; have BK333 := n1_; have HB := n2_; have BK361 := n3_; have GW361 := n4_; have GE361 := n5_; have NB333_361 := n6_; have NB361_333 := n7_; clear n0_ n1_ n2_ n3_ n4_ n5_ n6_ n7_; clear hb hbox hg; have hnb140 := NB361_333.out; have hnc140 := NB333_361.out; have hcz141_0 : w139.cell? ⟨gb361, 0, none⟩ = some (.int .u64 0) := (blk_cell BK361.out 0).trans rfl; have hcz141_1 : w139.cell? ⟨gb361, 1, none⟩ = some (.int .i64 0) := (blk_cell BK361.out 1).trans rfl; have hfz141_0 := blk_frozen BK361.out 0; have hfz141_1 := blk_frozen BK361.out 1))
              go_ret
              exact ⟨by first | rfl | (simp [errW_none, errW_some] <;> rfl) | (simp only [← hji7, ← hji8]; first | rfl | (simp [errW_none, errW_some] <;> rfl)) | (simp [*, errW_none, errW_some] <;> rfl), by repeat (first | (with_reducible first | exact HB.out | apply below_alloc | apply pw_below_drewN | apply below_drew1 | refine below_set ?_ GE333.out | refine below_set ?_ GE361.out) | exact HB.out)⟩
  · replace c6 := Bool.eq_false_iff.mpr c6
    subst c6
    have H1 : (some false) = some r := by rw [if_neg (show ¬ (false = true) by decide)] at H; exact H
    clear H
    have H := H1
    clear H1
    obtain rfl := Option.some.inj H
    go_enter Try.func8, Try.ntmps8
    go_wp2_with (first | ((with_reducible refine gate_dst (N := 5) rfl ?_); refine box_event ?hg (N := 5) ?hd (cs := #[.int .u64 a1_0, .int .u64 a1_1]) (t := 42) ?hr ?_; (case hd => rfl); (case hg => rfl); (case hr => first | (go_simp; done) | (go_simp; rfl)); intro gb333 hg w142 hbox hb; have n0_ := Aside0.mk (below_step (by repeat (first | (with_reducible first | exact HB.out | apply below_alloc | apply pw_below_drewN | apply below_drew1) | exact HB.out)) hb); have n1_ := Aside0.mk (hbox); have n2_ := Aside0.mk ((by rw [hg]; exact (below_size (by repeat (first | (with_reducible first | exact HB.out | apply below_alloc | apply pw_below_drewN | apply below_drew1) | exact HB.out))) : w.heap.size ≤ gb333)); have n3_ := Aside0.mk ((by rw [hg]; exact (below_size (by repeat (first | (with_reducible first | exact HB.out | apply below_alloc | apply pw_below_drewN | apply below_drew1) | exact HB.out))) : w.heap.size ≤ gb333)); clear HB; have HB := n0_; have BK333 := n1_; have GW333 := n2_; have GE333 := n3_; clear n0_ n1_ n2_ n3_; clear hb hbox hg) | ((with_reducible refine gate_callee (f := 30) rfl ?_); refine goesL_ (some 17) rfl rfl Try.func30 (by kernel_rfl) rfl #[] rfl (by (try simp only [List.map_toArray, List.map_cons, List.map_nil]); first | done | rfl | (simp only [List.length_drop, List.length_take]; rfl)) ?_; (with_reducible refine (gimballaw03_head.calls k  false _ A5.out).mono ?_); rintro e w143 ⟨rfl, hb⟩; refine ⟨_, rfl, ?_⟩; have n0_ := Aside0.mk (blk_below (g := gb333) (o := .cells #[.int .u64 a1_0, .int .u64 a1_1] 42 (0, 0)) (by (with_reducible repeat (first | refine blk_drewN ?_ _ | refine blk_drew ?_ | refine blk_alloc ?_ _)); exact BK333.out) hb); have n1_ := Aside0.mk (below_step (by repeat (first | (with_reducible first | exact HB.out | apply below_alloc | apply pw_below_drewN | apply below_drew1 | refine below_set ?_ GE333.out) | exact HB.out)) hb); clear BK333; clear HB; have BK333 := n0_; have HB := n1_; clear n0_ n1_; (try clear hb); (try clear hb2); (try clear hk); (try clear hi)))
    go_ret
    exact ⟨by first | rfl | (simp [errW_none, errW_some] <;> rfl) | (simp [*, errW_none, errW_some] <;> rfl), by repeat (first | (with_reducible first | exact HB.out | apply below_alloc | apply pw_below_drewN | apply below_drew1 | refine below_set ?_ GE333.out) | exact HB.out)⟩

/-- THE ONE PURE STATEMENT of gimballaw03_RoundAny: yours. -/
def gimballaw03_RoundAny.Pure : Prop := ∀ (a0 : Bool) (a1_0 : Int) (a1_1 : Int) (a2 : Int) (a3 : Bool), (Lit.int .u64 a1_0).wf = true → (Lit.int .u64 a1_1).wf = true → (Lit.int .i64 a2).wf = true → ∃ k, gimballaw03_RoundAny.f k a0 a1_0 a1_1 a2 a3 = some true
theorem gimballaw03_RoundAny.walk (P : gimballaw03_RoundAny.Pure) (a0 : Bool) (a1_0 : Int) (a1_1 : Int) (a2 : Int) (a3 : Bool) (w : World) (w1_0 : (Lit.int .u64 a1_0).wf = true) (w1_1 : (Lit.int .u64 a1_1).wf = true) (w2 : (Lit.int .i64 a2).wf = true) :
    Calls Try.prog 8 #[.bool a0, .agg #[.int .u64 a1_0, .int .u64 a1_1], .int .i64 a2, .bool a3] w fun e w' => e = .returned (.bool true) ∧ Below w.heap.size w w' := by
  obtain ⟨k, h⟩ := P a0 a1_0 a1_1 a2 a3 w1_0 w1_1 w2
  refine (gimballaw03_RoundAny.calls k a0 a1_0 a1_1 a2 a3 true w h).mono ?_
  rintro e w' ⟨rfl, hd⟩
  exact ⟨rfl, hd⟩

end Go.Proofs.Ytlnpcbhbcmhbkaa.QRoundAny
