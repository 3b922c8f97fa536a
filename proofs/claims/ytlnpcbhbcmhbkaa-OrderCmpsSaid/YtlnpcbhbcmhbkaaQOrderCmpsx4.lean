-- Written by a program of this session (wip/myprint.py, a changed print) out of Lean's own print of the translation. Lean checks it.
import Derived.Test.YtlnpcbhbcmhbkaaQOrderCmpsx0
import Derived.Test.YtlnpcbhbcmhbkaaQOrderCmpsx1
import Derived.Test.YtlnpcbhbcmhbkaaQOrderCmpsx2
import Derived.Test.YtlnpcbhbcmhbkaaQOrderCmpsx3
namespace Go.Proofs.Ytlnpcbhbcmhbkaa.QOrderCmps
open Go.RowKit Go.Proofs.YtlnpcbhbcmhbkaaW.PrintWords Go.Proofs.YtlnpcbhbcmhbkaaW.PrintLast Go.Proofs.YtlnpcbhbcmhbkaaW.PrintMore Go.Proofs.Ytlnpcbhbcmhbkaa.UX
attribute [local go_sem] max2_int min2_int max_two min_two max_three min_three max_four min_four   -- for this text's walks alone
set_option linter.unusedVariables false
set_option linter.unusedSimpArgs false

/-! ### gimballaw06_OrderCmps: function 5 -/
mutual
def gimballaw06_OrderCmps.j0 : Nat → Int → Int → Int → Bool → Bool → Option (Bool)
  | 0, _, _, _, _, _ => none
  | k + 1, x0, x1, x5, x6, x21 => if x21 = true then (if x5 = 0 then (if x6 = true then (some false) else ((order_Less.f k x0 x1).bind fun t222 => (if t222 = true then (some false) else ((order_Same.f k x0 x1).bind fun t223 => (some (!t223)))))) else (some false)) else ((gimballaw06_value.f k x0 x1).bind fun t224 => ((word_Abs.f x0).bind fun t225 => ((gimbalref04_Whole.f k t225).bind fun t226 => (if (t226.length : Int) = 0 then ((gimbalref04_IsInf.f x0).bind fun t229 => (if t229 = true then (gimballaw06_OrderCmps.j1 k x0 x1 x5 x6 t224 false) else ((word_Neg.f x0).bind fun t230 => ((word_Neg.f x1).bind fun t231 => (if (t230 != t231) = true then ((gimbalref04_IsZero.f x1).bind fun t232 => (gimballaw06_OrderCmps.j1 k x0 x1 x5 x6 t224 (!t232))) else (gimballaw06_OrderCmps.j1 k x0 x1 x5 x6 t224 false)))))) else (gimballaw06_OrderCmps.j1 k x0 x1 x5 x6 t224 false)))))
def gimballaw06_OrderCmps.j1 : Nat → Int → Int → Int → Bool → Int → Bool → Option (Bool)
  | 0, _, _, _, _, _, _ => none
  | k + 1, x0, x1, x5, x6, x7, x64 => if x64 = true then ((word_Neg.f x1).bind fun t233 => (if t233 = true then (if x6 = true then (if x5 = 1 then ((order_Less.f k x0 x1).bind fun t234 => (if (t234 == (decide (1 < 0))) = true then ((order_Same.f k x0 x1).bind fun t235 => (some (t235 == (1 == 0)))) else (some false))) else (some false)) else (some false)) else (if x6 = true then (if x5 = (-1) then ((order_Less.f k x0 x1).bind fun t236 => (if (t236 == (decide ((-1) < 0))) = true then ((order_Same.f k x0 x1).bind fun t237 => (some (t237 == ((-1) == 0)))) else (some false))) else (some false)) else (some false)))) else (if x6 = true then (if x5 = x7 then ((order_Less.f k x0 x1).bind fun t238 => (if (t238 == (decide (x7 < 0))) = true then ((order_Same.f k x0 x1).bind fun t239 => (some (t239 == (x7 == 0)))) else (some false))) else (some false)) else (some false))
end
def gimballaw06_OrderCmps.f (k : Nat) (a0 : Int) (a1 : Int) : Option (Bool) := (gimballaw06_head.f k).bind fun t217 => (if t217 = true then ((order_Cmp.f k a0 a1).bind fun bt218 => ((gimbalref04_IsNan.f a0).bind fun t220 => (if t220 = true then (gimballaw06_OrderCmps.j0 k a0 a1 bt218.1 bt218.2 true) else ((gimbalref04_IsNan.f a1).bind fun t221 => (gimballaw06_OrderCmps.j0 k a0 a1 bt218.1 bt218.2 t221))))) else (some false))
theorem gimballaw06_OrderCmps.mono_l : ∀ k, (∀ y0 y1 y2 y3 y4, LeO (gimballaw06_OrderCmps.j0 k y0 y1 y2 y3 y4) (gimballaw06_OrderCmps.j0 (k + 1) y0 y1 y2 y3 y4)) ∧ (∀ y0 y1 y2 y3 y4 y5, LeO (gimballaw06_OrderCmps.j1 k y0 y1 y2 y3 y4 y5) (gimballaw06_OrderCmps.j1 (k + 1) y0 y1 y2 y3 y4 y5))
  | 0 => ⟨fun _ _ _ _ _ r h => by simp [gimballaw06_OrderCmps.j0] at h, fun _ _ _ _ _ _ r h => by simp [gimballaw06_OrderCmps.j1] at h⟩
  | k + 1 => by
    obtain ⟨ih0, ih1⟩ := gimballaw06_OrderCmps.mono_l k
    refine ⟨?_, ?_⟩
    · intro y0 y1 y2 y3 y4
      unfold gimballaw06_OrderCmps.j0
      repeat' first
      | (with_reducible exact ih0 _ _ _ _ _)
      | (with_reducible exact ih1 _ _ _ _ _ _)
      | (with_reducible exact gimballaw06_head.mono _)
      | (with_reducible exact gimballaw06_value.mono _ _ _)
      | (with_reducible exact gimbalref04_Whole.mono _ _)
      | (with_reducible exact order_Cmp.mono _ _ _)
      | (with_reducible exact order_Less.mono _ _ _)
      | (with_reducible exact order_Same.mono _ _ _)
      | (with_reducible exact LeO.refl _)
      | (with_reducible exact LeO.none _)
      | (with_reducible refine LeO.ite ?_ ?_)
      | (with_reducible refine LeO.bind ?_ (fun _ => ?_))
      | exact ih0 _ _ _ _ _
      | exact ih1 _ _ _ _ _ _
      | exact gimballaw06_head.mono _
      | exact gimballaw06_value.mono _ _ _
      | exact gimbalref04_Whole.mono _ _
      | exact order_Cmp.mono _ _ _
      | exact order_Less.mono _ _ _
      | exact order_Same.mono _ _ _
      | exact LeO.none _
      | refine LeO.ite ?_ ?_
      | refine LeO.bind ?_ (fun _ => ?_)
    · intro y0 y1 y2 y3 y4 y5
      unfold gimballaw06_OrderCmps.j1
      repeat' first
      | (with_reducible exact ih0 _ _ _ _ _)
      | (with_reducible exact ih1 _ _ _ _ _ _)
      | (with_reducible exact gimballaw06_head.mono _)
      | (with_reducible exact gimballaw06_value.mono _ _ _)
      | (with_reducible exact gimbalref04_Whole.mono _ _)
      | (with_reducible exact order_Cmp.mono _ _ _)
      | (with_reducible exact order_Less.mono _ _ _)
      | (with_reducible exact order_Same.mono _ _ _)
      | (with_reducible exact LeO.refl _)
      | (with_reducible exact LeO.none _)
      | (with_reducible refine LeO.ite ?_ ?_)
      | (with_reducible refine LeO.bind ?_ (fun _ => ?_))
      | exact ih0 _ _ _ _ _
      | exact ih1 _ _ _ _ _ _
      | exact gimballaw06_head.mono _
      | exact gimballaw06_value.mono _ _ _
      | exact gimbalref04_Whole.mono _ _
      | exact order_Cmp.mono _ _ _
      | exact order_Less.mono _ _ _
      | exact order_Same.mono _ _ _
      | exact LeO.none _
      | refine LeO.ite ?_ ?_
      | refine LeO.bind ?_ (fun _ => ?_)
theorem gimballaw06_OrderCmps.mono : ∀ a0 a1 k, LeO (gimballaw06_OrderCmps.f k a0 a1) (gimballaw06_OrderCmps.f (k + 1) a0 a1) := by
  intro a0 a1 k
  obtain ⟨ih0, ih1⟩ := gimballaw06_OrderCmps.mono_l k
  unfold gimballaw06_OrderCmps.f
  repeat' first
      | (with_reducible exact ih0 _ _ _ _ _)
      | (with_reducible exact ih1 _ _ _ _ _ _)
      | (with_reducible exact gimballaw06_head.mono _)
      | (with_reducible exact gimballaw06_value.mono _ _ _)
      | (with_reducible exact gimbalref04_Whole.mono _ _)
      | (with_reducible exact order_Cmp.mono _ _ _)
      | (with_reducible exact order_Less.mono _ _ _)
      | (with_reducible exact order_Same.mono _ _ _)
      | (with_reducible exact LeO.refl _)
      | (with_reducible exact LeO.none _)
      | (with_reducible refine LeO.ite ?_ ?_)
      | (with_reducible refine LeO.bind ?_ (fun _ => ?_))
      | exact ih0 _ _ _ _ _
      | exact ih1 _ _ _ _ _ _
      | exact gimballaw06_head.mono _
      | exact gimballaw06_value.mono _ _ _
      | exact gimbalref04_Whole.mono _ _
      | exact order_Cmp.mono _ _ _
      | exact order_Less.mono _ _ _
      | exact order_Same.mono _ _ _
      | exact LeO.none _
      | refine LeO.ite ?_ ?_
      | refine LeO.bind ?_ (fun _ => ?_)
set_option maxHeartbeats 8000000 in
set_option maxRecDepth 100000 in
theorem gimballaw06_OrderCmps.calls (k : Nat) (a0 : Int) (a1 : Int) (r : Bool) (w : World) (h : gimballaw06_OrderCmps.f k a0 a1 = some r) :
    Calls Try.prog 5 #[.int .u64 a0, .int .u64 a1] w fun e w' => e = .returned (.bool r) ∧ Below w.heap.size w w' := by
  have HB := Aside0.mk (Below.refl w.heap.size w)
  have H : ((gimballaw06_head.f k).bind fun t217 => (if t217 = true then ((order_Cmp.f k a0 a1).bind fun bt218 => ((gimbalref04_IsNan.f a0).bind fun t220 => (if t220 = true then (gimballaw06_OrderCmps.j0 k a0 a1 bt218.1 bt218.2 true) else ((gimbalref04_IsNan.f a1).bind fun t221 => (gimballaw06_OrderCmps.j0 k a0 a1 bt218.1 bt218.2 t221))))) else (some false))) = some r := h
  clear h
  replace H := Option.bind_eq_some_iff.mp H
  obtain ⟨t217, A30, H⟩ := H
  replace H : (if t217 = true then ((order_Cmp.f k a0 a1).bind fun bt218 => ((gimbalref04_IsNan.f a0).bind fun t220 => (if t220 = true then (gimballaw06_OrderCmps.j0 k a0 a1 bt218.1 bt218.2 true) else ((gimbalref04_IsNan.f a1).bind fun t221 => (gimballaw06_OrderCmps.j0 k a0 a1 bt218.1 bt218.2 t221))))) else (some false)) = some r := H
  have A3 := Aside0.mk A30
  clear A30
  by_cases c4 : t217 = true
  · subst c4
    have H1 : ((order_Cmp.f k a0 a1).bind fun bt218 => ((gimbalref04_IsNan.f a0).bind fun t220 => (if t220 = true then (gimballaw06_OrderCmps.j0 k a0 a1 bt218.1 bt218.2 true) else ((gimbalref04_IsNan.f a1).bind fun t221 => (gimballaw06_OrderCmps.j0 k a0 a1 bt218.1 bt218.2 t221))))) = some r := by rw [if_pos rfl] at H; exact H
    clear H
    have H := H1
    clear H1
    replace H := Option.bind_eq_some_iff.mp H
    obtain ⟨⟨t218, t219⟩, A50, H⟩ := H
    replace H : ((gimbalref04_IsNan.f a0).bind fun t220 => (if t220 = true then (gimballaw06_OrderCmps.j0 k a0 a1 t218 t219 true) else ((gimbalref04_IsNan.f a1).bind fun t221 => (gimballaw06_OrderCmps.j0 k a0 a1 t218 t219 t221)))) = some r := H
    have A5 := Aside0.mk A50
    clear A50
    have HC6 := Aside0.mk H
    clear H
    go_enter Try.func5, Try.ntmps5
    go_upto_region 4 with (first | ((with_reducible refine gate_callee (f := 13) rfl ?_); refine goesL_ (some 8) rfl rfl Try.func13 (by kernel_rfl) rfl #[] rfl (by (try simp only [List.map_toArray, List.map_cons, List.map_nil]); first | done | rfl | (simp only [List.length_drop, List.length_take]; rfl)) ?_; (with_reducible refine (gimballaw06_head.calls k  true _ A3.out).mono ?_); rintro e w' ⟨rfl, ⟨nd, rfl⟩⟩; refine ⟨_, rfl, ?_⟩) | ((with_reducible refine gate_callee (f := 18) rfl ?_); refine goesL_ (some 13) rfl rfl Try.func18 (by kernel_rfl) rfl #[.int .u64 a0, .int .u64 a1] rfl (by (try simp only [List.map_toArray, List.map_cons, List.map_nil]); first | done | rfl | (simp only [List.length_drop, List.length_take]; rfl)) ?_; (with_reducible refine (order_Cmp.calls k a0 a1 t218 t219 _ A5.out).mono ?_); rintro e w' ⟨rfl, ⟨nd, rfl⟩⟩; refine ⟨_, rfl, ?_⟩))
    (try simp only [Act.put, List.setIfInBounds_toArray, List.set_cons_zero, List.set_cons_succ])
    go_cut [21] (fun v21 wc => ∃ (kq : Nat) (x21_5 : Bool), v21 = .bool x21_5 ∧ Aside0 (gimballaw06_OrderCmps.j0 kq a0 a1 t218 t219 x21_5 = some r) ∧ Aside0 (kq ≤ k) ∧ Aside0 (Below w.heap.size w wc))
    case first =>
      have H := HC6.out
      clear HC6
      replace H := Option.bind_eq_some_iff.mp H
      obtain ⟨t220, A70, H⟩ := H
      replace H : (if t220 = true then (gimballaw06_OrderCmps.j0 k a0 a1 t218 t219 true) else ((gimbalref04_IsNan.f a1).bind fun t221 => (gimballaw06_OrderCmps.j0 k a0 a1 t218 t219 t221))) = some r := H
      have A7 := Aside0.mk A70
      clear A70
      by_cases c8 : t220 = true
      · subst c8
        have H1 : (gimballaw06_OrderCmps.j0 k a0 a1 t218 t219 true) = some r := by rw [if_pos rfl] at H; exact H
        clear H
        have H := H1
        clear H1
        have H' := Aside0.mk H
        clear H
        go_wp2_with (first | ((with_reducible refine gate_callee (f := 19) rfl ?_); refine goesL_ (some 17) rfl rfl Try.func19 (by kernel_rfl) rfl #[.int .u64 a0] rfl (by (try simp only [List.map_toArray, List.map_cons, List.map_nil]); first | done | rfl | (simp only [List.length_drop, List.length_take]; rfl)) ?_; (with_reducible refine (gimbalref04_IsNan.calls a0 true _ A7.out).mono ?_); rintro e w' ⟨rfl, ⟨nd, rfl⟩⟩; refine ⟨_, rfl, ?_⟩))
        go_meet
        case rel => exact ⟨_, (true), (by first | rfl | (simp; done) | (simp [*]; done)), H', ⟨by first | omega | exact Nat.le_refl _⟩, ⟨by repeat (first | (with_reducible first | exact HB.out | apply below_alloc | apply pw_below_drewN | apply below_drew1) | exact HB.out)⟩⟩
      · replace c8 := Bool.eq_false_iff.mpr c8
        subst c8
        have H1 : ((gimbalref04_IsNan.f a1).bind fun t221 => (gimballaw06_OrderCmps.j0 k a0 a1 t218 t219 t221)) = some r := by rw [if_neg (show ¬ (false = true) by decide)] at H; exact H
        clear H
        have H := H1
        clear H1
        replace H := Option.bind_eq_some_iff.mp H
        obtain ⟨t221, A90, H⟩ := H
        replace H : (gimballaw06_OrderCmps.j0 k a0 a1 t218 t219 t221) = some r := H
        have A9 := Aside0.mk A90
        clear A90
        have H' := Aside0.mk H
        clear H
        go_wp2_with (first | ((with_reducible refine gate_callee (f := 19) rfl ?_); refine goesL_ (some 17) rfl rfl Try.func19 (by kernel_rfl) rfl #[.int .u64 a0] rfl (by (try simp only [List.map_toArray, List.map_cons, List.map_nil]); first | done | rfl | (simp only [List.length_drop, List.length_take]; rfl)) ?_; (with_reducible refine (gimbalref04_IsNan.calls a0 false _ A7.out).mono ?_); rintro e w' ⟨rfl, ⟨nd, rfl⟩⟩; refine ⟨_, rfl, ?_⟩) | (go_at_call 19; (with_reducible refine (gimbalref04_IsNan.calls a1 t221 _ A9.out).mono ?_); rintro e w' ⟨rfl, ⟨nd, rfl⟩⟩))
        go_meet
        case rel => exact ⟨_, (t221), (by first | rfl | (simp; done) | (simp [*]; done)), H', ⟨by first | omega | exact Nat.le_refl _⟩, ⟨by repeat (first | (with_reducible first | exact HB.out | apply below_alloc | apply pw_below_drewN | apply below_drew1) | exact HB.out)⟩⟩
    case rest =>
      clear HC6
      try clear c1
      try clear p2
      try clear c4
      try clear c5
      try clear c8
      obtain ⟨kq, x21_5, rfl, HA, HJ5, HB⟩ := hcut
      cases kq with
      | zero => exact absurd HA.out (by simp [gimballaw06_OrderCmps.j0])
      | succ kj5 =>
        have H := HA.out
        clear HA
        simp only [gimballaw06_OrderCmps.j0] at H
        by_cases c10 : x21_5 = true
        · subst c10
          have H1 : (if t218 = 0 then (if t219 = true then (some false) else ((order_Less.f kj5 a0 a1).bind fun t222 => (if t222 = true then (some false) else ((order_Same.f kj5 a0 a1).bind fun t223 => (some (!t223)))))) else (some false)) = some r := by rw [if_pos rfl] at H; exact H
          clear H
          have H := H1
          clear H1
          by_cases c11 : t218 = 0
          · rw [if_pos c11] at H
            have c11b0 : (t218 == 0) = true := beq_iff_eq.mpr c11
            have c11b1 : (t218 != 0) = false := bne_eq_false_iff_eq.mpr c11
            clear c11
            by_cases c12 : t219 = true
            · subst c12
              have H1 : (some false) = some r := by rw [if_pos rfl] at H; exact H
              clear H
              have H := H1
              clear H1
              obtain rfl := Option.some.inj H
              go_wp2
              go_ret
              exact ⟨by first | rfl | (simp only [Ending.returned.injEq, Value.bool.injEq]; rw [Bool.eq_iff_iff]; simp; done) | (simp [errW_none, errW_some] <;> rfl) | (simp [*, errW_none, errW_some] <;> rfl), by repeat (first | (with_reducible first | exact HB.out | apply below_alloc | apply pw_below_drewN | apply below_drew1) | exact HB.out)⟩
            · replace c12 := Bool.eq_false_iff.mpr c12
              subst c12
              have H1 : ((order_Less.f kj5 a0 a1).bind fun t222 => (if t222 = true then (some false) else ((order_Same.f kj5 a0 a1).bind fun t223 => (some (!t223))))) = some r := by rw [if_neg (show ¬ (false = true) by decide)] at H; exact H
              clear H
              have H := H1
              clear H1
              replace H := Option.bind_eq_some_iff.mp H
              obtain ⟨t222, A130, H⟩ := H
              replace H : (if t222 = true then (some false) else ((order_Same.f kj5 a0 a1).bind fun t223 => (some (!t223)))) = some r := H
              have A13 := Aside0.mk A130
              clear A130
              by_cases c14 : t222 = true
              · subst c14
                have H1 : (some false) = some r := by rw [if_pos rfl] at H; exact H
                clear H
                have H := H1
                clear H1
                obtain rfl := Option.some.inj H
                go_wp2_with (first | (go_at_call 15; (with_reducible refine (order_Less.calls kj5 a0 a1 true _ A13.out).mono ?_); rintro e w' ⟨rfl, ⟨nd, rfl⟩⟩))
                go_ret
                exact ⟨by first | rfl | (simp only [Ending.returned.injEq, Value.bool.injEq]; rw [Bool.eq_iff_iff]; simp; done) | (simp [errW_none, errW_some] <;> rfl) | (simp [*, errW_none, errW_some] <;> rfl), by repeat (first | (with_reducible first | exact HB.out | apply below_alloc | apply pw_below_drewN | apply below_drew1) | exact HB.out)⟩
              · replace c14 := Bool.eq_false_iff.mpr c14
                subst c14
                have H1 : ((order_Same.f kj5 a0 a1).bind fun t223 => (some (!t223))) = some r := by rw [if_neg (show ¬ (false = true) by decide)] at H; exact H
                clear H
                have H := H1
                clear H1
                replace H := Option.bind_eq_some_iff.mp H
                obtain ⟨t223, A150, H⟩ := H
                replace H : (some (!t223)) = some r := H
                have A15 := Aside0.mk A150
                clear A150
                obtain rfl := Option.some.inj H
                go_wp2_with (first | (go_at_call 15; (with_reducible refine (order_Less.calls kj5 a0 a1 false _ A13.out).mono ?_); rintro e w' ⟨rfl, ⟨nd, rfl⟩⟩) | (go_at_call 20; (with_reducible refine (order_Same.calls kj5 a0 a1 t223 _ A15.out).mono ?_); rintro e w' ⟨rfl, ⟨nd, rfl⟩⟩))
                go_ret
                exact ⟨by first | rfl | (simp only [Ending.returned.injEq, Value.bool.injEq]; rw [Bool.eq_iff_iff]; simp; done) | (simp [errW_none, errW_some] <;> rfl) | (simp [*, errW_none, errW_some] <;> rfl), by repeat (first | (with_reducible first | exact HB.out | apply below_alloc | apply pw_below_drewN | apply below_drew1) | exact HB.out)⟩
          · rw [if_neg c11] at H
            have c11b0 : (t218 == 0) = false := beq_eq_false_iff_ne.mpr c11
            have c11b1 : (t218 != 0) = true := bne_iff_ne.mpr c11
            obtain rfl := Option.some.inj H
            go_wp2
            go_ret
            exact ⟨by first | rfl | (simp only [Ending.returned.injEq, Value.bool.injEq]; rw [Bool.eq_iff_iff]; simp; done) | (simp [errW_none, errW_some] <;> rfl) | (simp [*, errW_none, errW_some] <;> rfl), by repeat (first | (with_reducible first | exact HB.out | apply below_alloc | apply pw_below_drewN | apply below_drew1) | exact HB.out)⟩
        · replace c10 := Bool.eq_false_iff.mpr c10
          subst c10
          have H1 : ((gimballaw06_value.f kj5 a0 a1).bind fun t224 => ((word_Abs.f a0).bind fun t225 => ((gimbalref04_Whole.f kj5 t225).bind fun t226 => (if (t226.length : Int) = 0 then ((gimbalref04_IsInf.f a0).bind fun t229 => (if t229 = true then (gimballaw06_OrderCmps.j1 kj5 a0 a1 t218 t219 t224 false) else ((word_Neg.f a0).bind fun t230 => ((word_Neg.f a1).bind fun t231 => (if (t230 != t231) = true then ((gimbalref04_IsZero.f a1).bind fun t232 => (gimballaw06_OrderCmps.j1 kj5 a0 a1 t218 t219 t224 (!t232))) else (gimballaw06_OrderCmps.j1 kj5 a0 a1 t218 t219 t224 false)))))) else (gimballaw06_OrderCmps.j1 kj5 a0 a1 t218 t219 t224 false))))) = some r := by rw [if_neg (show ¬ (false = true) by decide)] at H; exact H
          clear H
          have H := H1
          clear H1
          replace H := Option.bind_eq_some_iff.mp H
          obtain ⟨t224, A160, H⟩ := H
          replace H : ((word_Abs.f a0).bind fun t225 => ((gimbalref04_Whole.f kj5 t225).bind fun t226 => (if (t226.length : Int) = 0 then ((gimbalref04_IsInf.f a0).bind fun t229 => (if t229 = true then (gimballaw06_OrderCmps.j1 kj5 a0 a1 t218 t219 t224 false) else ((word_Neg.f a0).bind fun t230 => ((word_Neg.f a1).bind fun t231 => (if (t230 != t231) = true then ((gimbalref04_IsZero.f a1).bind fun t232 => (gimballaw06_OrderCmps.j1 kj5 a0 a1 t218 t219 t224 (!t232))) else (gimballaw06_OrderCmps.j1 kj5 a0 a1 t218 t219 t224 false)))))) else (gimballaw06_OrderCmps.j1 kj5 a0 a1 t218 t219 t224 false)))) = some r := H
          have A16 := Aside0.mk A160
          clear A160
          have HC17 := Aside0.mk H
          clear H
          go_upto_region 7 with (first | ((with_reducible refine gate_callee (f := 21) rfl ?_); refine goesL_ (some 42) rfl rfl Try.func21 (by kernel_rfl) rfl #[.int .u64 a0, .int .u64 a1] rfl (by (try simp only [List.map_toArray, List.map_cons, List.map_nil]); first | done | rfl | (simp only [List.length_drop, List.length_take]; rfl)) ?_; (with_reducible refine (gimballaw06_value.calls kj5 a0 a1 t224 _ A16.out).mono ?_); rintro e w18 ⟨rfl, hb⟩; refine ⟨_, rfl, ?_⟩; have n0_ := Aside0.mk (below_step (by repeat (first | (with_reducible first | exact HB.out | apply below_alloc | apply pw_below_drewN | apply below_drew1) | exact HB.out)) hb); clear HB; have HB := n0_; clear n0_; (try clear hb); (try clear hb2); (try clear hk); (try clear hi)))
          (try simp only [Act.put, List.setIfInBounds_toArray, List.set_cons_zero, List.set_cons_succ])
          go_cut [64] (fun v64 wc => ∃ (kq : Nat) (x64_16 : Bool), v64 = .bool x64_16 ∧ Aside0 (gimballaw06_OrderCmps.j1 kq a0 a1 t218 t219 t224 x64_16 = some r) ∧ Aside0 (kq ≤ kj5) ∧ Aside0 (Below w.heap.size w wc))
          case first =>
            have H := HC17.out
            clear HC17
            replace H := Option.bind_eq_some_iff.mp H
            obtain ⟨t225, A190, H⟩ := H
            replace H : ((gimbalref04_Whole.f kj5 t225).bind fun t226 => (if (t226.length : Int) = 0 then ((gimbalref04_IsInf.f a0).bind fun t229 => (if t229 = true then (gimballaw06_OrderCmps.j1 kj5 a0 a1 t218 t219 t224 false) else ((word_Neg.f a0).bind fun t230 => ((word_Neg.f a1).bind fun t231 => (if (t230 != t231) = true then ((gimbalref04_IsZero.f a1).bind fun t232 => (gimballaw06_OrderCmps.j1 kj5 a0 a1 t218 t219 t224 (!t232))) else (gimballaw06_OrderCmps.j1 kj5 a0 a1 t218 t219 t224 false)))))) else (gimballaw06_OrderCmps.j1 kj5 a0 a1 t218 t219 t224 false))) = some r := H
            have A19 := Aside0.mk A190
            clear A190
            replace H := Option.bind_eq_some_iff.mp H
            obtain ⟨t226, A200, H⟩ := H
            replace H : (if (t226.length : Int) = 0 then ((gimbalref04_IsInf.f a0).bind fun t229 => (if t229 = true then (gimballaw06_OrderCmps.j1 kj5 a0 a1 t218 t219 t224 false) else ((word_Neg.f a0).bind fun t230 => ((word_Neg.f a1).bind fun t231 => (if (t230 != t231) = true then ((gimbalref04_IsZero.f a1).bind fun t232 => (gimballaw06_OrderCmps.j1 kj5 a0 a1 t218 t219 t224 (!t232))) else (gimballaw06_OrderCmps.j1 kj5 a0 a1 t218 t219 t224 false)))))) else (gimballaw06_OrderCmps.j1 kj5 a0 a1 t218 t219 t224 false)) = some r := H
            have A20 := Aside0.mk A200
            clear A200
            by_cases c21 : (t226.length : Int) = 0
            · rw [if_pos c21] at H
              have c21b0 : ((t226.length : Int) == 0) = true := beq_iff_eq.mpr c21
              have c21b1 : ((t226.length : Int) != 0) = false := bne_eq_false_iff_eq.mpr c21
              clear c21
              (first | rw [c21b0] | (simp only [i64_w, i32_w]; rw [c21b0]) | skip)
              replace H := Option.bind_eq_some_iff.mp H
              obtain ⟨t229, A220, H⟩ := H
              replace H : (if t229 = true then (gimballaw06_OrderCmps.j1 kj5 a0 a1 t218 t219 t224 false) else ((word_Neg.f a0).bind fun t230 => ((word_Neg.f a1).bind fun t231 => (if (t230 != t231) = true then ((gimbalref04_IsZero.f a1).bind fun t232 => (gimballaw06_OrderCmps.j1 kj5 a0 a1 t218 t219 t224 (!t232))) else (gimballaw06_OrderCmps.j1 kj5 a0 a1 t218 t219 t224 false))))) = some r := H
              have A22 := Aside0.mk A220
              clear A220
              by_cases c23 : t229 = true
              · subst c23
                have H1 : (gimballaw06_OrderCmps.j1 kj5 a0 a1 t218 t219 t224 false) = some r := by rw [if_pos rfl] at H; exact H
                clear H
                have H := H1
                clear H1
                have H' := Aside0.mk H
                clear H
                go_wp2_with (first | ((with_reducible refine gate_callee (f := 17) rfl ?_); refine goesL_ (some 44) rfl rfl Try.func17 (by kernel_rfl) rfl #[.int .u64 a0] rfl (by (try simp only [List.map_toArray, List.map_cons, List.map_nil]); first | done | rfl | (simp only [List.length_drop, List.length_take]; rfl)) ?_; (with_reducible refine (word_Abs.calls a0 t225 _ A19.out).mono ?_); rintro e w' ⟨rfl, ⟨nd, rfl⟩⟩; refine ⟨_, rfl, ?_⟩) | ((with_reducible refine gate_callee (f := 22) rfl ?_); refine goesL_ (some 45) rfl rfl Try.func22 (by kernel_rfl) rfl #[.int .u64 t225] rfl (by (try simp only [List.map_toArray, List.map_cons, List.map_nil]); first | done | rfl | (simp only [List.length_drop, List.length_take]; rfl)) ?_; (with_reducible refine (gimbalref04_Whole.calls kj5 t225 t226 _ A20.out).mono ?_); rintro e w24 ⟨v227, rfl, ho0, hb⟩; refine ⟨_, rfl, ?_⟩; have n0_ := Aside0.mk (Kd.R_lower ho0 (below_size (by repeat (first | (with_reducible first | exact HB.out | apply below_alloc | apply pw_below_drewN | apply below_drew1) | exact HB.out)))); have n1_ := Aside0.mk (below_step (by repeat (first | (with_reducible first | exact HB.out | apply below_alloc | apply pw_below_drewN | apply below_drew1) | exact HB.out)) hb); clear HB; have HO228 := n0_; have HB := n1_; clear n0_ n1_; (try clear hb); (try clear hb2); (try clear hk); (try clear hi); (try clear ho0); obtain ⟨Ao25, co25, eo25⟩ := Kd.R_slice HO228.out; subst eo25) | (go_at_call 23; (with_reducible refine (gimbalref04_IsInf.calls a0 true _ A22.out).mono ?_); rintro e w' ⟨rfl, ⟨nd, rfl⟩⟩))
                go_meet
                case rel => exact ⟨_, (false), (by first | rfl | (simp; done) | (simp [*]; done)), H', ⟨by have := HJ5.out; first | omega | exact Nat.le_refl _⟩, ⟨by repeat (first | (with_reducible first | exact HB.out | apply below_alloc | apply pw_below_drewN | apply below_drew1) | exact HB.out)⟩⟩
              · replace c23 := Bool.eq_false_iff.mpr c23
                subst c23
                have H1 : ((word_Neg.f a0).bind fun t230 => ((word_Neg.f a1).bind fun t231 => (if (t230 != t231) = true then ((gimbalref04_IsZero.f a1).bind fun t232 => (gimballaw06_OrderCmps.j1 kj5 a0 a1 t218 t219 t224 (!t232))) else (gimballaw06_OrderCmps.j1 kj5 a0 a1 t218 t219 t224 false)))) = some r := by rw [if_neg (show ¬ (false = true) by decide)] at H; exact H
                clear H
                have H := H1
                clear H1
                replace H := Option.bind_eq_some_iff.mp H
                obtain ⟨t230, A260, H⟩ := H
                replace H : ((word_Neg.f a1).bind fun t231 => (if (t230 != t231) = true then ((gimbalref04_IsZero.f a1).bind fun t232 => (gimballaw06_OrderCmps.j1 kj5 a0 a1 t218 t219 t224 (!t232))) else (gimballaw06_OrderCmps.j1 kj5 a0 a1 t218 t219 t224 false))) = some r := H
                have A26 := Aside0.mk A260
                clear A260
                replace H := Option.bind_eq_some_iff.mp H
                obtain ⟨t231, A270, H⟩ := H
                replace H : (if (t230 != t231) = true then ((gimbalref04_IsZero.f a1).bind fun t232 => (gimballaw06_OrderCmps.j1 kj5 a0 a1 t218 t219 t224 (!t232))) else (gimballaw06_OrderCmps.j1 kj5 a0 a1 t218 t219 t224 false)) = some r := H
                have A27 := Aside0.mk A270
                clear A270
                by_cases c28 : (t230 != t231) = true
                · rw [if_pos c28] at H
                  have c28b0 : (t230 != t231) = true := c28
                  (try (have c28b1 : decide (t230 = t231) = false := by simpa using c28))
                  (try (have c28b2 : (t230 == t231) = false := by simpa using c28))
                  (try (have c28b3 : ¬ (t230 = t231) := by simpa using c28))
                  clear c28
                  replace H := Option.bind_eq_some_iff.mp H
                  obtain ⟨t232, A290, H⟩ := H
                  replace H : (gimballaw06_OrderCmps.j1 kj5 a0 a1 t218 t219 t224 (!t232)) = some r := H
                  have A29 := Aside0.mk A290
                  clear A290
                  have H' := Aside0.mk H
                  clear H
                  go_wp2_with (first | ((with_reducible refine gate_callee (f := 17) rfl ?_); refine goesL_ (some 44) rfl rfl Try.func17 (by kernel_rfl) rfl #[.int .u64 a0] rfl (by (try simp only [List.map_toArray, List.map_cons, List.map_nil]); first | done | rfl | (simp only [List.length_drop, List.length_take]; rfl)) ?_; (with_reducible refine (word_Abs.calls a0 t225 _ A19.out).mono ?_); rintro e w' ⟨rfl, ⟨nd, rfl⟩⟩; refine ⟨_, rfl, ?_⟩) | ((with_reducible refine gate_callee (f := 22) rfl ?_); refine goesL_ (some 45) rfl rfl Try.func22 (by kernel_rfl) rfl #[.int .u64 t225] rfl (by (try simp only [List.map_toArray, List.map_cons, List.map_nil]); first | done | rfl | (simp only [List.length_drop, List.length_take]; rfl)) ?_; (with_reducible refine (gimbalref04_Whole.calls kj5 t225 t226 _ A20.out).mono ?_); rintro e w30 ⟨v227, rfl, ho0, hb⟩; refine ⟨_, rfl, ?_⟩; have n0_ := Aside0.mk (Kd.R_lower ho0 (below_size (by repeat (first | (with_reducible first | exact HB.out | apply below_alloc | apply pw_below_drewN | apply below_drew1) | exact HB.out)))); have n1_ := Aside0.mk (below_step (by repeat (first | (with_reducible first | exact HB.out | apply below_alloc | apply pw_below_drewN | apply below_drew1) | exact HB.out)) hb); clear HB; have HO228 := n0_; have HB := n1_; clear n0_ n1_; (try clear hb); (try clear hb2); (try clear hk); (try clear hi); (try clear ho0); obtain ⟨Ao31, co31, eo31⟩ := Kd.R_slice HO228.out; subst eo31) | (go_at_call 23; (with_reducible refine (gimbalref04_IsInf.calls a0 false _ A22.out).mono ?_); rintro e w' ⟨rfl, ⟨nd, rfl⟩⟩) | (go_at_call 16; (with_reducible refine (word_Neg.calls a0 t230 _ A26.out).mono ?_); rintro e w' ⟨rfl, ⟨nd, rfl⟩⟩) | (go_at_call 16; (with_reducible refine (word_Neg.calls a1 t231 _ A27.out).mono ?_); rintro e w' ⟨rfl, ⟨nd, rfl⟩⟩) | (go_at_call 24; (with_reducible refine (gimbalref04_IsZero.calls a1 t232 _ A29.out).mono ?_); rintro e w' ⟨rfl, ⟨nd, rfl⟩⟩))
                  go_meet
                  case rel => exact ⟨_, (!t232), (by first | rfl | (simp; done) | (simp [*]; done)), H', ⟨by have := HJ5.out; first | omega | exact Nat.le_refl _⟩, ⟨by repeat (first | (with_reducible first | exact HB.out | apply below_alloc | apply pw_below_drewN | apply below_drew1) | exact HB.out)⟩⟩
                · rw [if_neg c28] at H
                  have c28b0 : (t230 != t231) = false := by simpa using c28
                  (try (have c28b1 : decide (t230 = t231) = true := by simpa using c28))
                  (try (have c28b2 : (t230 == t231) = true := by simpa using c28))
                  clear c28
                  have H' := Aside0.mk H
                  clear H
                  go_wp2_with (first | ((with_reducible refine gate_callee (f := 17) rfl ?_); refine goesL_ (some 44) rfl rfl Try.func17 (by kernel_rfl) rfl #[.int .u64 a0] rfl (by (try simp only [List.map_toArray, List.map_cons, List.map_nil]); first | done | rfl | (simp only [List.length_drop, List.length_take]; rfl)) ?_; (with_reducible refine (word_Abs.calls a0 t225 _ A19.out).mono ?_); rintro e w' ⟨rfl, ⟨nd, rfl⟩⟩; refine ⟨_, rfl, ?_⟩) | ((with_reducible refine gate_callee (f := 22) rfl ?_); refine goesL_ (some 45) rfl rfl Try.func22 (by kernel_rfl) rfl #[.int .u64 t225] rfl (by (try simp only [List.map_toArray, List.map_cons, List.map_nil]); first | done | rfl | (simp only [List.length_drop, List.length_take]; rfl)) ?_; (with_reducible refine (gimbalref04_Whole.calls kj5 t225 t226 _ A20.out).mono ?_); rintro e w32 ⟨v227, rfl, ho0, hb⟩; refine ⟨_, rfl, ?_⟩; have n0_ := Aside0.mk (Kd.R_lower ho0 (below_size (by repeat (first | (with_reducible first | exact HB.out | apply below_alloc | apply pw_below_drewN | apply below_drew1) | exact HB.out)))); have n1_ := Aside0.mk (below_step (by repeat (first | (with_reducible first | exact HB.out | apply below_alloc | apply pw_below_drewN | apply below_drew1) | exact HB.out)) hb); clear HB; have HO228 := n0_; have HB := n1_; clear n0_ n1_; (try clear hb); (try clear hb2); (try clear hk); (try clear hi); (try clear ho0); obtain ⟨Ao33, co33, eo33⟩ := Kd.R_slice HO228.out; subst eo33) | (go_at_call 23; (with_reducible refine (gimbalref04_IsInf.calls a0 false _ A22.out).mono ?_); rintro e w' ⟨rfl, ⟨nd, rfl⟩⟩) | (go_at_call 16; (with_reducible refine (word_Neg.calls a0 t230 _ A26.out).mono ?_); rintro e w' ⟨rfl, ⟨nd, rfl⟩⟩) | (go_at_call 16; (with_reducible refine (word_Neg.calls a1 t231 _ A27.out).mono ?_); rintro e w' ⟨rfl, ⟨nd, rfl⟩⟩))
                  go_meet
                  case rel => exact ⟨_, (false), (by first | rfl | (simp; done) | (simp [*]; done)), H', ⟨by have := HJ5.out; first | omega | exact Nat.le_refl _⟩, ⟨by repeat (first | (with_reducible first | exact HB.out | apply below_alloc | apply pw_below_drewN | apply below_drew1) | exact HB.out)⟩⟩
            · rw [if_neg c21] at H
              have c21b0 : ((t226.length : Int) == 0) = false := beq_eq_false_iff_ne.mpr c21
              have c21b1 : ((t226.length : Int) != 0) = true := bne_iff_ne.mpr c21
              have c21b2 : ¬ (t226 = []) := fun h_ => c21 (by rw [h_]; rfl)
              (first | rw [c21b0] | (simp only [i64_w, i32_w]; rw [c21b0]) | skip)
              have H' := Aside0.mk H
              clear H
              go_wp2_with (first | ((with_reducible refine gate_callee (f := 17) rfl ?_); refine goesL_ (some 44) rfl rfl Try.func17 (by kernel_rfl) rfl #[.int .u64 a0] rfl (by (try simp only [List.map_toArray, List.map_cons, List.map_nil]); first | done | rfl | (simp only [List.length_drop, List.length_take]; rfl)) ?_; (with_reducible refine (word_Abs.calls a0 t225 _ A19.out).mono ?_); rintro e w' ⟨rfl, ⟨nd, rfl⟩⟩; refine ⟨_, rfl, ?_⟩) | ((with_reducible refine gate_callee (f := 22) rfl ?_); refine goesL_ (some 45) rfl rfl Try.func22 (by kernel_rfl) rfl #[.int .u64 t225] rfl (by (try simp only [List.map_toArray, List.map_cons, List.map_nil]); first | done | rfl | (simp only [List.length_drop, List.length_take]; rfl)) ?_; (with_reducible refine (gimbalref04_Whole.calls kj5 t225 t226 _ A20.out).mono ?_); rintro e w34 ⟨v227, rfl, ho0, hb⟩; refine ⟨_, rfl, ?_⟩; have n0_ := Aside0.mk (Kd.R_lower ho0 (below_size (by repeat (first | (with_reducible first | exact HB.out | apply below_alloc | apply pw_below_drewN | apply below_drew1) | exact HB.out)))); have n1_ := Aside0.mk (below_step (by repeat (first | (with_reducible first | exact HB.out | apply below_alloc | apply pw_below_drewN | apply below_drew1) | exact HB.out)) hb); clear HB; have HO228 := n0_; have HB := n1_; clear n0_ n1_; (try clear hb); (try clear hb2); (try clear hk); (try clear hi); (try clear ho0); obtain ⟨Ao35, co35, eo35⟩ := Kd.R_slice HO228.out; subst eo35))
              go_meet
              case rel => exact ⟨_, (false), (by first | rfl | (simp; done) | (simp [*]; done)), H', ⟨by have := HJ5.out; first | omega | exact Nat.le_refl _⟩, ⟨by repeat (first | (with_reducible first | exact HB.out | apply below_alloc | apply pw_below_drewN | apply below_drew1) | exact HB.out)⟩⟩
          case rest =>
            clear HC17
            try clear c1
            try clear c2
            try clear p2
            try clear c4
            try clear c5
            try clear c8
            try clear c10
            try clear c11
            try clear c11b0
            try clear c11b1
            try clear c12
            try clear c13
            try clear c14
            try clear c17
            try clear c18
            try clear c19
            try clear c21
            try clear c21b0
            try clear c21b1
            try clear c21b2
            try clear c22
            try clear c23
            try clear c28
            try clear c28b0
            try clear c28b1
            try clear c28b2
            try clear p2
            obtain ⟨kq, x64_16, rfl, HA, HJ16, HB⟩ := hcut
            cases kq with
            | zero => exact absurd HA.out (by simp [gimballaw06_OrderCmps.j1])
            | succ kj16 =>
              have H := HA.out
              clear HA
              simp only [gimballaw06_OrderCmps.j1] at H
              by_cases c36 : x64_16 = true
              · subst c36
                have H1 : ((word_Neg.f a1).bind fun t233 => (if t233 = true then (if t219 = true then (if t218 = 1 then ((order_Less.f kj16 a0 a1).bind fun t234 => (if (t234 == (decide (1 < 0))) = true then ((order_Same.f kj16 a0 a1).bind fun t235 => (some (t235 == (1 == 0)))) else (some false))) else (some false)) else (some false)) else (if t219 = true then (if t218 = (-1) then ((order_Less.f kj16 a0 a1).bind fun t236 => (if (t236 == (decide ((-1) < 0))) = true then ((order_Same.f kj16 a0 a1).bind fun t237 => (some (t237 == ((-1) == 0)))) else (some false))) else (some false)) else (some false)))) = some r := by rw [if_pos rfl] at H; exact H
                clear H
                have H := H1
                clear H1
                replace H := Option.bind_eq_some_iff.mp H
                obtain ⟨t233, A370, H⟩ := H
                replace H : (if t233 = true then (if t219 = true then (if t218 = 1 then ((order_Less.f kj16 a0 a1).bind fun t234 => (if (t234 == (decide (1 < 0))) = true then ((order_Same.f kj16 a0 a1).bind fun t235 => (some (t235 == (1 == 0)))) else (some false))) else (some false)) else (some false)) else (if t219 = true then (if t218 = (-1) then ((order_Less.f kj16 a0 a1).bind fun t236 => (if (t236 == (decide ((-1) < 0))) = true then ((order_Same.f kj16 a0 a1).bind fun t237 => (some (t237 == ((-1) == 0)))) else (some false))) else (some false)) else (some false))) = some r := H
                have A37 := Aside0.mk A370
                clear A370
                by_cases c38 : t233 = true
                · subst c38
                  have H1 : (if t219 = true then (if t218 = 1 then ((order_Less.f kj16 a0 a1).bind fun t234 => (if (t234 == (decide (1 < 0))) = true then ((order_Same.f kj16 a0 a1).bind fun t235 => (some (t235 == (1 == 0)))) else (some false))) else (some false)) else (some false)) = some r := by rw [if_pos rfl] at H; exact H
                  clear H
                  have H := H1
                  clear H1
                  by_cases c39 : t219 = true
                  · subst c39
                    have H1 : (if t218 = 1 then ((order_Less.f kj16 a0 a1).bind fun t234 => (if (t234 == (decide (1 < 0))) = true then ((order_Same.f kj16 a0 a1).bind fun t235 => (some (t235 == (1 == 0)))) else (some false))) else (some false)) = some r := by rw [if_pos rfl] at H; exact H
                    clear H
                    have H := H1
                    clear H1
                    by_cases c40 : t218 = 1
                    · rw [if_pos c40] at H
                      have c40b0 : (t218 == 1) = true := beq_iff_eq.mpr c40
                      have c40b1 : (t218 != 1) = false := bne_eq_false_iff_eq.mpr c40
                      clear c40
                      replace H := Option.bind_eq_some_iff.mp H
                      obtain ⟨t234, A410, H⟩ := H
                      replace H : (if (t234 == (decide (1 < 0))) = true then ((order_Same.f kj16 a0 a1).bind fun t235 => (some (t235 == (1 == 0)))) else (some false)) = some r := H
                      have A41 := Aside0.mk A410
                      clear A410
                      by_cases c42 : (t234 == (decide (1 < 0))) = true
                      · rw [if_pos c42] at H
                        have c42x : t234 = false := by simpa using c42
                        clear c42
                        replace H := Option.bind_eq_some_iff.mp H
                        obtain ⟨t235, A430, H⟩ := H
                        replace H : (some (t235 == (1 == 0))) = some r := H
                        have A43 := Aside0.mk A430
                        clear A430
                        obtain rfl := Option.some.inj H
                        go_wp2_with (first | ((with_reducible refine gate_callee (f := 16) rfl ?_); refine goesL_ (some 66) rfl rfl Try.func16 (by kernel_rfl) rfl #[.int .u64 a1] rfl (by (try simp only [List.map_toArray, List.map_cons, List.map_nil]); first | done | rfl | (simp only [List.length_drop, List.length_take]; rfl)) ?_; (with_reducible refine (word_Neg.calls a1 true _ A37.out).mono ?_); rintro e w' ⟨rfl, ⟨nd, rfl⟩⟩; refine ⟨_, rfl, ?_⟩) | (go_at_call 15; (with_reducible refine (order_Less.calls kj16 a0 a1 t234 _ A41.out).mono ?_); rintro e w' ⟨rfl, ⟨nd, rfl⟩⟩) | (go_at_call 20; (with_reducible refine (order_Same.calls kj16 a0 a1 t235 _ A43.out).mono ?_); rintro e w' ⟨rfl, ⟨nd, rfl⟩⟩))
                        go_ret
                        exact ⟨by first | rfl | (simp only [Ending.returned.injEq, Value.bool.injEq]; rw [Bool.eq_iff_iff]; simp; done) | (simp [errW_none, errW_some] <;> rfl) | (simp [*, errW_none, errW_some] <;> rfl), by repeat (first | (with_reducible first | exact HB.out | apply below_alloc | apply pw_below_drewN | apply below_drew1) | exact HB.out)⟩
                      · rw [if_neg c42] at H
                        have c42x : t234 = true := by simpa using c42
                        clear c42
                        obtain rfl := Option.some.inj H
                        go_wp2_with (first | ((with_reducible refine gate_callee (f := 16) rfl ?_); refine goesL_ (some 66) rfl rfl Try.func16 (by kernel_rfl) rfl #[.int .u64 a1] rfl (by (try simp only [List.map_toArray, List.map_cons, List.map_nil]); first | done | rfl | (simp only [List.length_drop, List.length_take]; rfl)) ?_; (with_reducible refine (word_Neg.calls a1 true _ A37.out).mono ?_); rintro e w' ⟨rfl, ⟨nd, rfl⟩⟩; refine ⟨_, rfl, ?_⟩) | (go_at_call 15; (with_reducible refine (order_Less.calls kj16 a0 a1 t234 _ A41.out).mono ?_); rintro e w' ⟨rfl, ⟨nd, rfl⟩⟩))
                        go_ret
                        exact ⟨by first | rfl | (simp only [Ending.returned.injEq, Value.bool.injEq]; rw [Bool.eq_iff_iff]; simp; done) | (simp [errW_none, errW_some] <;> rfl) | (simp [*, errW_none, errW_some] <;> rfl), by repeat (first | (with_reducible first | exact HB.out | apply below_alloc | apply pw_below_drewN | apply below_drew1) | exact HB.out)⟩
                    · rw [if_neg c40] at H
                      have c40b0 : (t218 == 1) = false := beq_eq_false_iff_ne.mpr c40
                      have c40b1 : (t218 != 1) = true := bne_iff_ne.mpr c40
                      obtain rfl := Option.some.inj H
                      go_wp2_with (first | ((with_reducible refine gate_callee (f := 16) rfl ?_); refine goesL_ (some 66) rfl rfl Try.func16 (by kernel_rfl) rfl #[.int .u64 a1] rfl (by (try simp only [List.map_toArray, List.map_cons, List.map_nil]); first | done | rfl | (simp only [List.length_drop, List.length_take]; rfl)) ?_; (with_reducible refine (word_Neg.calls a1 true _ A37.out).mono ?_); rintro e w' ⟨rfl, ⟨nd, rfl⟩⟩; refine ⟨_, rfl, ?_⟩))
                      go_ret
                      exact ⟨by first | rfl | (simp only [Ending.returned.injEq, Value.bool.injEq]; rw [Bool.eq_iff_iff]; simp; done) | (simp [errW_none, errW_some] <;> rfl) | (simp [*, errW_none, errW_some] <;> rfl), by repeat (first | (with_reducible first | exact HB.out | apply below_alloc | apply pw_below_drewN | apply below_drew1) | exact HB.out)⟩
                  · replace c39 := Bool.eq_false_iff.mpr c39
                    subst c39
                    have H1 : (some false) = some r := by rw [if_neg (show ¬ (false = true) by decide)] at H; exact H
                    clear H
                    have H := H1
                    clear H1
                    obtain rfl := Option.some.inj H
                    go_wp2_with (first | ((with_reducible refine gate_callee (f := 16) rfl ?_); refine goesL_ (some 66) rfl rfl Try.func16 (by kernel_rfl) rfl #[.int .u64 a1] rfl (by (try simp only [List.map_toArray, List.map_cons, List.map_nil]); first | done | rfl | (simp only [List.length_drop, List.length_take]; rfl)) ?_; (with_reducible refine (word_Neg.calls a1 true _ A37.out).mono ?_); rintro e w' ⟨rfl, ⟨nd, rfl⟩⟩; refine ⟨_, rfl, ?_⟩))
                    go_ret
                    exact ⟨by first | rfl | (simp only [Ending.returned.injEq, Value.bool.injEq]; rw [Bool.eq_iff_iff]; simp; done) | (simp [errW_none, errW_some] <;> rfl) | (simp [*, errW_none, errW_some] <;> rfl), by repeat (first | (with_reducible first | exact HB.out | apply below_alloc | apply pw_below_drewN | apply below_drew1) | exact HB.out)⟩
                · replace c38 := Bool.eq_false_iff.mpr c38
                  subst c38
                  have H1 : (if t219 = true then (if t218 = (-1) then ((order_Less.f kj16 a0 a1).bind fun t236 => (if (t236 == (decide ((-1) < 0))) = true then ((order_Same.f kj16 a0 a1).bind fun t237 => (some (t237 == ((-1) == 0)))) else (some false))) else (some false)) else (some false)) = some r := by rw [if_neg (show ¬ (false = true) by decide)] at H; exact H
                  clear H
                  have H := H1
                  clear H1
                  by_cases c44 : t219 = true
                  · subst c44
                    have H1 : (if t218 = (-1) then ((order_Less.f kj16 a0 a1).bind fun t236 => (if (t236 == (decide ((-1) < 0))) = true then ((order_Same.f kj16 a0 a1).bind fun t237 => (some (t237 == ((-1) == 0)))) else (some false))) else (some false)) = some r := by rw [if_pos rfl] at H; exact H
                    clear H
                    have H := H1
                    clear H1
                    by_cases c45 : t218 = (-1)
                    · rw [if_pos c45] at H
                      have c45b0 : (t218 == (-1)) = true := beq_iff_eq.mpr c45
                      have c45b1 : (t218 != (-1)) = false := bne_eq_false_iff_eq.mpr c45
                      clear c45
                      replace H := Option.bind_eq_some_iff.mp H
                      obtain ⟨t236, A460, H⟩ := H
                      replace H : (if (t236 == (decide ((-1) < 0))) = true then ((order_Same.f kj16 a0 a1).bind fun t237 => (some (t237 == ((-1) == 0)))) else (some false)) = some r := H
                      have A46 := Aside0.mk A460
                      clear A460
                      by_cases c47 : (t236 == (decide ((-1) < 0))) = true
                      · rw [if_pos c47] at H
                        have c47x : t236 = true := by simpa using c47
                        clear c47
                        replace H := Option.bind_eq_some_iff.mp H
                        obtain ⟨t237, A480, H⟩ := H
                        replace H : (some (t237 == ((-1) == 0))) = some r := H
                        have A48 := Aside0.mk A480
                        clear A480
                        obtain rfl := Option.some.inj H
                        go_wp2_with (first | ((with_reducible refine gate_callee (f := 16) rfl ?_); refine goesL_ (some 66) rfl rfl Try.func16 (by kernel_rfl) rfl #[.int .u64 a1] rfl (by (try simp only [List.map_toArray, List.map_cons, List.map_nil]); first | done | rfl | (simp only [List.length_drop, List.length_take]; rfl)) ?_; (with_reducible refine (word_Neg.calls a1 false _ A37.out).mono ?_); rintro e w' ⟨rfl, ⟨nd, rfl⟩⟩; refine ⟨_, rfl, ?_⟩) | (go_at_call 15; (with_reducible refine (order_Less.calls kj16 a0 a1 t236 _ A46.out).mono ?_); rintro e w' ⟨rfl, ⟨nd, rfl⟩⟩) | (go_at_call 20; (with_reducible refine (order_Same.calls kj16 a0 a1 t237 _ A48.out).mono ?_); rintro e w' ⟨rfl, ⟨nd, rfl⟩⟩))
                        go_ret
                        exact ⟨by first | rfl | (simp only [Ending.returned.injEq, Value.bool.injEq]; rw [Bool.eq_iff_iff]; simp; done) | (simp [errW_none, errW_some] <;> rfl) | (simp [*, errW_none, errW_some] <;> rfl), by repeat (first | (with_reducible first | exact HB.out | apply below_alloc | apply pw_below_drewN | apply below_drew1) | exact HB.out)⟩
                      · rw [if_neg c47] at H
                        have c47x : t236 = false := by simpa using c47
                        clear c47
                        obtain rfl := Option.some.inj H
                        go_wp2_with (first | ((with_reducible refine gate_callee (f := 16) rfl ?_); refine goesL_ (some 66) rfl rfl Try.func16 (by kernel_rfl) rfl #[.int .u64 a1] rfl (by (try simp only [List.map_toArray, List.map_cons, List.map_nil]); first | done | rfl | (simp only [List.length_drop, List.length_take]; rfl)) ?_; (with_reducible refine (word_Neg.calls a1 false _ A37.out).mono ?_); rintro e w' ⟨rfl, ⟨nd, rfl⟩⟩; refine ⟨_, rfl, ?_⟩) | (go_at_call 15; (with_reducible refine (order_Less.calls kj16 a0 a1 t236 _ A46.out).mono ?_); rintro e w' ⟨rfl, ⟨nd, rfl⟩⟩))
                        go_ret
                        exact ⟨by first | rfl | (simp only [Ending.returned.injEq, Value.bool.injEq]; rw [Bool.eq_iff_iff]; simp; done) | (simp [errW_none, errW_some] <;> rfl) | (simp [*, errW_none, errW_some] <;> rfl), by repeat (first | (with_reducible first | exact HB.out | apply below_alloc | apply pw_below_drewN | apply below_drew1) | exact HB.out)⟩
                    · rw [if_neg c45] at H
                      have c45b0 : (t218 == (-1)) = false := beq_eq_false_iff_ne.mpr c45
                      have c45b1 : (t218 != (-1)) = true := bne_iff_ne.mpr c45
                      obtain rfl := Option.some.inj H
                      go_wp2_with (first | ((with_reducible refine gate_callee (f := 16) rfl ?_); refine goesL_ (some 66) rfl rfl Try.func16 (by kernel_rfl) rfl #[.int .u64 a1] rfl (by (try simp only [List.map_toArray, List.map_cons, List.map_nil]); first | done | rfl | (simp only [List.length_drop, List.length_take]; rfl)) ?_; (with_reducible refine (word_Neg.calls a1 false _ A37.out).mono ?_); rintro e w' ⟨rfl, ⟨nd, rfl⟩⟩; refine ⟨_, rfl, ?_⟩))
                      go_ret
                      exact ⟨by first | rfl | (simp only [Ending.returned.injEq, Value.bool.injEq]; rw [Bool.eq_iff_iff]; simp; done) | (simp [errW_none, errW_some] <;> rfl) | (simp [*, errW_none, errW_some] <;> rfl), by repeat (first | (with_reducible first | exact HB.out | apply below_alloc | apply pw_below_drewN | apply below_drew1) | exact HB.out)⟩
                  · replace c44 := Bool.eq_false_iff.mpr c44
                    subst c44
                    have H1 : (some false) = some r := by rw [if_neg (show ¬ (false = true) by decide)] at H; exact H
                    clear H
                    have H := H1
                    clear H1
                    obtain rfl := Option.some.inj H
                    go_wp2_with (first | ((with_reducible refine gate_callee (f := 16) rfl ?_); refine goesL_ (some 66) rfl rfl Try.func16 (by kernel_rfl) rfl #[.int .u64 a1] rfl (by (try simp only [List.map_toArray, List.map_cons, List.map_nil]); first | done | rfl | (simp only [List.length_drop, List.length_take]; rfl)) ?_; (with_reducible refine (word_Neg.calls a1 false _ A37.out).mono ?_); rintro e w' ⟨rfl, ⟨nd, rfl⟩⟩; refine ⟨_, rfl, ?_⟩))
                    go_ret
                    exact ⟨by first | rfl | (simp only [Ending.returned.injEq, Value.bool.injEq]; rw [Bool.eq_iff_iff]; simp; done) | (simp [errW_none, errW_some] <;> rfl) | (simp [*, errW_none, errW_some] <;> rfl), by repeat (first | (with_reducible first | exact HB.out | apply below_alloc | apply pw_below_drewN | apply below_drew1) | exact HB.out)⟩
              · replace c36 := Bool.eq_false_iff.mpr c36
                subst c36
                have H1 : (if t219 = true then (if t218 = t224 then ((order_Less.f kj16 a0 a1).bind fun t238 => (if (t238 == (decide (t224 < 0))) = true then ((order_Same.f kj16 a0 a1).bind fun t239 => (some (t239 == (t224 == 0)))) else (some false))) else (some false)) else (some false)) = some r := by rw [if_neg (show ¬ (false = true) by decide)] at H; exact H
                clear H
                have H := H1
                clear H1
                by_cases c49 : t219 = true
                · subst c49
                  have H1 : (if t218 = t224 then ((order_Less.f kj16 a0 a1).bind fun t238 => (if (t238 == (decide (t224 < 0))) = true then ((order_Same.f kj16 a0 a1).bind fun t239 => (some (t239 == (t224 == 0)))) else (some false))) else (some false)) = some r := by rw [if_pos rfl] at H; exact H
                  clear H
                  have H := H1
                  clear H1
                  by_cases c50 : t218 = t224
                  · rw [if_pos c50] at H
                    have c50b0 : (t218 == t224) = true := beq_iff_eq.mpr c50
                    have c50b1 : (t218 != t224) = false := bne_eq_false_iff_eq.mpr c50
                    clear c50
                    replace H := Option.bind_eq_some_iff.mp H
                    obtain ⟨t238, A510, H⟩ := H
                    replace H : (if (t238 == (decide (t224 < 0))) = true then ((order_Same.f kj16 a0 a1).bind fun t239 => (some (t239 == (t224 == 0)))) else (some false)) = some r := H
                    have A51 := Aside0.mk A510
                    clear A510
                    by_cases c52 : (t238 == (decide (t224 < 0))) = true
                    · rw [if_pos c52] at H
                      have c52b0 : (t238 == (decide (t224 < 0))) = true := c52
                      (try (have c52b1 : decide (t238 = (decide (t224 < 0))) = true := by simpa using c52))
                      (try (have c52b2 : (t238 == (decide (t224 < 0))) = true := by simpa using c52))
                      clear c52
                      replace H := Option.bind_eq_some_iff.mp H
                      obtain ⟨t239, A530, H⟩ := H
                      replace H : (some (t239 == (t224 == 0))) = some r := H
                      have A53 := Aside0.mk A530
                      clear A530
                      obtain rfl := Option.some.inj H
                      go_wp2_with (first | (go_at_call 15; (with_reducible refine (order_Less.calls kj16 a0 a1 t238 _ A51.out).mono ?_); rintro e w' ⟨rfl, ⟨nd, rfl⟩⟩) | (go_at_call 20; (with_reducible refine (order_Same.calls kj16 a0 a1 t239 _ A53.out).mono ?_); rintro e w' ⟨rfl, ⟨nd, rfl⟩⟩))
                      go_ret
                      exact ⟨by first | rfl | (simp only [Ending.returned.injEq, Value.bool.injEq]; rw [Bool.eq_iff_iff]; simp; done) | (simp [errW_none, errW_some] <;> rfl) | (simp [*, errW_none, errW_some] <;> rfl), by repeat (first | (with_reducible first | exact HB.out | apply below_alloc | apply pw_below_drewN | apply below_drew1) | exact HB.out)⟩
                    · rw [if_neg c52] at H
                      have c52b0 : (t238 == (decide (t224 < 0))) = false := by simpa using c52
                      (try (have c52b1 : decide (t238 = (decide (t224 < 0))) = false := by simpa using c52))
                      (try (have c52b2 : (t238 == (decide (t224 < 0))) = false := by simpa using c52))
                      (try (have c52b3 : ¬ (t238 = (decide (t224 < 0))) := by simpa using c52))
                      clear c52
                      obtain rfl := Option.some.inj H
                      go_wp2_with (first | (go_at_call 15; (with_reducible refine (order_Less.calls kj16 a0 a1 t238 _ A51.out).mono ?_); rintro e w' ⟨rfl, ⟨nd, rfl⟩⟩))
                      go_ret
                      exact ⟨by first | rfl | (simp only [Ending.returned.injEq, Value.bool.injEq]; rw [Bool.eq_iff_iff]; simp; done) | (simp [errW_none, errW_some] <;> rfl) | (simp [*, errW_none, errW_some] <;> rfl), by repeat (first | (with_reducible first | exact HB.out | apply below_alloc | apply pw_below_drewN | apply below_drew1) | exact HB.out)⟩
                  · rw [if_neg c50] at H
                    have c50b0 : (t218 == t224) = false := beq_eq_false_iff_ne.mpr c50
                    have c50b1 : (t218 != t224) = true := bne_iff_ne.mpr c50
                    obtain rfl := Option.some.inj H
                    go_wp2
                    go_ret
                    exact ⟨by first | rfl | (simp only [Ending.returned.injEq, Value.bool.injEq]; rw [Bool.eq_iff_iff]; simp; done) | (simp [errW_none, errW_some] <;> rfl) | (simp [*, errW_none, errW_some] <;> rfl), by repeat (first | (with_reducible first | exact HB.out | apply below_alloc | apply pw_below_drewN | apply below_drew1) | exact HB.out)⟩
                · replace c49 := Bool.eq_false_iff.mpr c49
                  subst c49
                  have H1 : (some false) = some r := by rw [if_neg (show ¬ (false = true) by decide)] at H; exact H
                  clear H
                  have H := H1
                  clear H1
                  obtain rfl := Option.some.inj H
                  go_wp2
                  go_ret
                  exact ⟨by first | rfl | (simp only [Ending.returned.injEq, Value.bool.injEq]; rw [Bool.eq_iff_iff]; simp; done) | (simp [errW_none, errW_some] <;> rfl) | (simp [*, errW_none, errW_some] <;> rfl), by repeat (first | (with_reducible first | exact HB.out | apply below_alloc | apply pw_below_drewN | apply below_drew1) | exact HB.out)⟩
  · replace c4 := Bool.eq_false_iff.mpr c4
    subst c4
    have H1 : (some false) = some r := by rw [if_neg (show ¬ (false = true) by decide)] at H; exact H
    clear H
    have H := H1
    clear H1
    obtain rfl := Option.some.inj H
    go_enter Try.func5, Try.ntmps5
    go_wp2_with (first | ((with_reducible refine gate_callee (f := 13) rfl ?_); refine goesL_ (some 8) rfl rfl Try.func13 (by kernel_rfl) rfl #[] rfl (by (try simp only [List.map_toArray, List.map_cons, List.map_nil]); first | done | rfl | (simp only [List.length_drop, List.length_take]; rfl)) ?_; (with_reducible refine (gimballaw06_head.calls k  false _ A3.out).mono ?_); rintro e w' ⟨rfl, ⟨nd, rfl⟩⟩; refine ⟨_, rfl, ?_⟩))
    go_ret
    exact ⟨by first | rfl | (simp only [Ending.returned.injEq, Value.bool.injEq]; rw [Bool.eq_iff_iff]; simp; done) | (simp [errW_none, errW_some] <;> rfl) | (simp [*, errW_none, errW_some] <;> rfl), by repeat (first | (with_reducible first | exact HB.out | apply below_alloc | apply pw_below_drewN | apply below_drew1) | exact HB.out)⟩

/-- THE ONE PURE STATEMENT of gimballaw06_OrderCmps: yours. -/
def gimballaw06_OrderCmps.Pure : Prop := ∀ (a0 : Int) (a1 : Int), (Lit.int .u64 a0).wf = true → (Lit.int .u64 a1).wf = true → ∃ k, gimballaw06_OrderCmps.f k a0 a1 = some true
theorem gimballaw06_OrderCmps.walk (P : gimballaw06_OrderCmps.Pure) (a0 : Int) (a1 : Int) (w : World) (w0 : (Lit.int .u64 a0).wf = true) (w1 : (Lit.int .u64 a1).wf = true) :
    Calls Try.prog 5 #[.int .u64 a0, .int .u64 a1] w fun e w' => e = .returned (.bool true) ∧ Below w.heap.size w w' := by
  obtain ⟨k, h⟩ := P a0 a1 w0 w1
  refine (gimballaw06_OrderCmps.calls k a0 a1 true w h).mono ?_
  rintro e w' ⟨rfl, hd⟩
  exact ⟨rfl, hd⟩

end Go.Proofs.Ytlnpcbhbcmhbkaa.QOrderCmps
