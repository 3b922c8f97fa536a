-- PRINTED BY print.sh 35421559b90ae4d0a3588c463048766b98c2df88dd9212a6774a882060cdf62d: not written by this session
import Derived.Test.YtjamobbfafjdmaaPWordPartsx0
import Derived.Test.YtjamobbfafjdmaaPWordPartsx1
namespace Go.Proofs.Ytjamobbfafjdmaa.PWordParts
open Go.RowKit Go.Proofs.YtjamobbfafjdmaaW.PrintWords Go.Proofs.YtjamobbfafjdmaaW.PrintLast Go.Proofs.YtjamobbfafjdmaaW.PrintMore
attribute [local go_sem] max2_int min2_int max_two min_two max_three min_three max_four min_four   -- for this text's walks alone
set_option linter.unusedVariables false
set_option linter.unusedSimpArgs false

/-! ### gimballaw01_WordParts: function 10 -/
mutual
def gimballaw01_WordParts.j0 : Nat → Int → Int → Int → Bool → Option (Bool)
  | 0, _, _, _, _ => none
  | k + 1, x0, x4, x5, x46 => if x46 = true then (some false) else (if x4 = 0 then (if x5 = 0 then (gimballaw01_WordParts.j1 k x0 x4 x5 1 x5 0) else (gimballaw01_WordParts.j1 k x0 x4 x5 2 x5 (-1074))) else (gimballaw01_WordParts.j1 k x0 x4 x5 3 (IntKind.u64.wrap (x5 + 4503599627370496)) (wrap64 ((wrap64 (x4)) - 1075))))
def gimballaw01_WordParts.j1 : Nat → Int → Int → Int → Int → Int → Int → Option (Bool)
  | 0, _, _, _, _, _, _ => none
  | k + 1, x0, x4, x5, x6, x7, x8 => if x4 = 2047 then (if x5 > 0 then (gimballaw01_WordParts.j2 k x0 x4 x5 5 0 0) else (gimballaw01_WordParts.j2 k x0 x4 x5 4 0 0)) else (gimballaw01_WordParts.j2 k x0 x4 x5 x6 x7 x8)
def gimballaw01_WordParts.j2 : Nat → Int → Int → Int → Int → Int → Int → Option (Bool)
  | 0, _, _, _, _, _, _ => none
  | k + 1, x0, x4, x5, x6, x7, x8 => (word_Parts.f k x0).bind fun bt122 => ((word_Kind.f k x0).bind fun t124 => (if t124 = x6 then (if bt122.1 = x7 then (if bt122.2 = x8 then ((word_Finite.f x0).bind fun t125 => (if (t125 == (decide (x4 < 2047))) = true then ((word_Signals.f k x0).bind fun t126 => (if x6 = 5 then (some (t126 == (decide (x5 < 2251799813685248)))) else (some (t126 == false)))) else (some false))) else (some false)) else (some false)) else (some false)))
end
def gimballaw01_WordParts.f (k : Nat) (a0 : Int) : Option (Bool) := (gimballaw01_head.f k).bind fun t114 => (if t114 = true then ((gimballaw01_split.f a0).bind fun bt115 => ((word_Neg.f a0).bind fun t118 => (if (t118 != (bt115.1 == 1)) = true then (gimballaw01_WordParts.j0 k a0 bt115.2.1 bt115.2.2 true) else ((word_Exp.f a0).bind fun t119 => (if t119 = (wrap64 (bt115.2.1)) then ((word_Frac.f a0).bind fun t120 => (if t120 = bt115.2.2 then ((word_Make.f (bt115.1 == 1) (wrap64 (bt115.2.1)) bt115.2.2).bind fun t121 => (gimballaw01_WordParts.j0 k a0 bt115.2.1 bt115.2.2 (t121 != a0))) else (gimballaw01_WordParts.j0 k a0 bt115.2.1 bt115.2.2 true))) else (gimballaw01_WordParts.j0 k a0 bt115.2.1 bt115.2.2 true)))))) else (some false))
theorem gimballaw01_WordParts.mono_l : ∀ k, (∀ y0 y1 y2 y3, LeO (gimballaw01_WordParts.j0 k y0 y1 y2 y3) (gimballaw01_WordParts.j0 (k + 1) y0 y1 y2 y3)) ∧ (∀ y0 y1 y2 y3 y4 y5, LeO (gimballaw01_WordParts.j1 k y0 y1 y2 y3 y4 y5) (gimballaw01_WordParts.j1 (k + 1) y0 y1 y2 y3 y4 y5)) ∧ (∀ y0 y1 y2 y3 y4 y5, LeO (gimballaw01_WordParts.j2 k y0 y1 y2 y3 y4 y5) (gimballaw01_WordParts.j2 (k + 1) y0 y1 y2 y3 y4 y5))
  | 0 => ⟨fun _ _ _ _ r h => by simp [gimballaw01_WordParts.j0] at h, fun _ _ _ _ _ _ r h => by simp [gimballaw01_WordParts.j1] at h, fun _ _ _ _ _ _ r h => by simp [gimballaw01_WordParts.j2] at h⟩
  | k + 1 => by
    obtain ⟨ih0, ih1, ih2⟩ := gimballaw01_WordParts.mono_l k
    refine ⟨?_, ?_, ?_⟩
    · intro y0 y1 y2 y3
      unfold gimballaw01_WordParts.j0
      repeat' first
      | (with_reducible exact ih0 _ _ _ _)
      | (with_reducible exact ih1 _ _ _ _ _ _)
      | (with_reducible exact ih2 _ _ _ _ _ _)
      | (with_reducible exact gimballaw01_head.mono _)
      | (with_reducible exact word_Kind.mono _ _)
      | (with_reducible exact word_Parts.mono _ _)
      | (with_reducible exact word_Signals.mono _ _)
      | (with_reducible exact LeO.refl _)
      | (with_reducible exact LeO.none _)
      | (with_reducible refine LeO.ite ?_ ?_)
      | (with_reducible refine LeO.bind ?_ (fun _ => ?_))
      | exact ih0 _ _ _ _
      | exact ih1 _ _ _ _ _ _
      | exact ih2 _ _ _ _ _ _
      | exact gimballaw01_head.mono _
      | exact word_Kind.mono _ _
      | exact word_Parts.mono _ _
      | exact word_Signals.mono _ _
      | exact LeO.none _
      | refine LeO.ite ?_ ?_
      | refine LeO.bind ?_ (fun _ => ?_)
    · intro y0 y1 y2 y3 y4 y5
      unfold gimballaw01_WordParts.j1
      repeat' first
      | (with_reducible exact ih0 _ _ _ _)
      | (with_reducible exact ih1 _ _ _ _ _ _)
      | (with_reducible exact ih2 _ _ _ _ _ _)
      | (with_reducible exact gimballaw01_head.mono _)
      | (with_reducible exact word_Kind.mono _ _)
      | (with_reducible exact word_Parts.mono _ _)
      | (with_reducible exact word_Signals.mono _ _)
      | (with_reducible exact LeO.refl _)
      | (with_reducible exact LeO.none _)
      | (with_reducible refine LeO.ite ?_ ?_)
      | (with_reducible refine LeO.bind ?_ (fun _ => ?_))
      | exact ih0 _ _ _ _
      | exact ih1 _ _ _ _ _ _
      | exact ih2 _ _ _ _ _ _
      | exact gimballaw01_head.mono _
      | exact word_Kind.mono _ _
      | exact word_Parts.mono _ _
      | exact word_Signals.mono _ _
      | exact LeO.none _
      | refine LeO.ite ?_ ?_
      | refine LeO.bind ?_ (fun _ => ?_)
    · intro y0 y1 y2 y3 y4 y5
      unfold gimballaw01_WordParts.j2
      repeat' first
      | (with_reducible exact ih0 _ _ _ _)
      | (with_reducible exact ih1 _ _ _ _ _ _)
      | (with_reducible exact ih2 _ _ _ _ _ _)
      | (with_reducible exact gimballaw01_head.mono _)
      | (with_reducible exact word_Kind.mono _ _)
      | (with_reducible exact word_Parts.mono _ _)
      | (with_reducible exact word_Signals.mono _ _)
      | (with_reducible exact LeO.refl _)
      | (with_reducible exact LeO.none _)
      | (with_reducible refine LeO.ite ?_ ?_)
      | (with_reducible refine LeO.bind ?_ (fun _ => ?_))
      | exact ih0 _ _ _ _
      | exact ih1 _ _ _ _ _ _
      | exact ih2 _ _ _ _ _ _
      | exact gimballaw01_head.mono _
      | exact word_Kind.mono _ _
      | exact word_Parts.mono _ _
      | exact word_Signals.mono _ _
      | exact LeO.none _
      | refine LeO.ite ?_ ?_
      | refine LeO.bind ?_ (fun _ => ?_)
theorem gimballaw01_WordParts.mono : ∀ a0 k, LeO (gimballaw01_WordParts.f k a0) (gimballaw01_WordParts.f (k + 1) a0) := by
  intro a0 k
  obtain ⟨ih0, ih1, ih2⟩ := gimballaw01_WordParts.mono_l k
  unfold gimballaw01_WordParts.f
  repeat' first
      | (with_reducible exact ih0 _ _ _ _)
      | (with_reducible exact ih1 _ _ _ _ _ _)
      | (with_reducible exact ih2 _ _ _ _ _ _)
      | (with_reducible exact gimballaw01_head.mono _)
      | (with_reducible exact word_Kind.mono _ _)
      | (with_reducible exact word_Parts.mono _ _)
      | (with_reducible exact word_Signals.mono _ _)
      | (with_reducible exact LeO.refl _)
      | (with_reducible exact LeO.none _)
      | (with_reducible refine LeO.ite ?_ ?_)
      | (with_reducible refine LeO.bind ?_ (fun _ => ?_))
      | exact ih0 _ _ _ _
      | exact ih1 _ _ _ _ _ _
      | exact ih2 _ _ _ _ _ _
      | exact gimballaw01_head.mono _
      | exact word_Kind.mono _ _
      | exact word_Parts.mono _ _
      | exact word_Signals.mono _ _
      | exact LeO.none _
      | refine LeO.ite ?_ ?_
      | refine LeO.bind ?_ (fun _ => ?_)
set_option maxHeartbeats 8000000 in
set_option maxRecDepth 100000 in
theorem gimballaw01_WordParts.calls (k : Nat) (a0 : Int) (r : Bool) (w : World) (h : gimballaw01_WordParts.f k a0 = some r) :
    Calls Try.prog 10 #[.int .u64 a0] w fun e w' => e = .returned (.bool r) ∧ Drawn0 w w' := by
  have H : ((gimballaw01_head.f k).bind fun t114 => (if t114 = true then ((gimballaw01_split.f a0).bind fun bt115 => ((word_Neg.f a0).bind fun t118 => (if (t118 != (bt115.1 == 1)) = true then (gimballaw01_WordParts.j0 k a0 bt115.2.1 bt115.2.2 true) else ((word_Exp.f a0).bind fun t119 => (if t119 = (wrap64 (bt115.2.1)) then ((word_Frac.f a0).bind fun t120 => (if t120 = bt115.2.2 then ((word_Make.f (bt115.1 == 1) (wrap64 (bt115.2.1)) bt115.2.2).bind fun t121 => (gimballaw01_WordParts.j0 k a0 bt115.2.1 bt115.2.2 (t121 != a0))) else (gimballaw01_WordParts.j0 k a0 bt115.2.1 bt115.2.2 true))) else (gimballaw01_WordParts.j0 k a0 bt115.2.1 bt115.2.2 true)))))) else (some false))) = some r := h
  clear h
  replace H := Option.bind_eq_some_iff.mp H
  obtain ⟨t114, A20, H⟩ := H
  replace H : (if t114 = true then ((gimballaw01_split.f a0).bind fun bt115 => ((word_Neg.f a0).bind fun t118 => (if (t118 != (bt115.1 == 1)) = true then (gimballaw01_WordParts.j0 k a0 bt115.2.1 bt115.2.2 true) else ((word_Exp.f a0).bind fun t119 => (if t119 = (wrap64 (bt115.2.1)) then ((word_Frac.f a0).bind fun t120 => (if t120 = bt115.2.2 then ((word_Make.f (bt115.1 == 1) (wrap64 (bt115.2.1)) bt115.2.2).bind fun t121 => (gimballaw01_WordParts.j0 k a0 bt115.2.1 bt115.2.2 (t121 != a0))) else (gimballaw01_WordParts.j0 k a0 bt115.2.1 bt115.2.2 true))) else (gimballaw01_WordParts.j0 k a0 bt115.2.1 bt115.2.2 true)))))) else (some false)) = some r := H
  have A2 := Aside0.mk A20
  clear A20
  by_cases c3 : t114 = true
  · subst c3
    have H1 : ((gimballaw01_split.f a0).bind fun bt115 => ((word_Neg.f a0).bind fun t118 => (if (t118 != (bt115.1 == 1)) = true then (gimballaw01_WordParts.j0 k a0 bt115.2.1 bt115.2.2 true) else ((word_Exp.f a0).bind fun t119 => (if t119 = (wrap64 (bt115.2.1)) then ((word_Frac.f a0).bind fun t120 => (if t120 = bt115.2.2 then ((word_Make.f (bt115.1 == 1) (wrap64 (bt115.2.1)) bt115.2.2).bind fun t121 => (gimballaw01_WordParts.j0 k a0 bt115.2.1 bt115.2.2 (t121 != a0))) else (gimballaw01_WordParts.j0 k a0 bt115.2.1 bt115.2.2 true))) else (gimballaw01_WordParts.j0 k a0 bt115.2.1 bt115.2.2 true)))))) = some r := by rw [if_pos rfl] at H; exact H
    clear H
    have H := H1
    clear H1
    replace H := Option.bind_eq_some_iff.mp H
    obtain ⟨⟨t115, t116, t117⟩, A40, H⟩ := H
    replace H : ((word_Neg.f a0).bind fun t118 => (if (t118 != (t115 == 1)) = true then (gimballaw01_WordParts.j0 k a0 t116 t117 true) else ((word_Exp.f a0).bind fun t119 => (if t119 = (wrap64 (t116)) then ((word_Frac.f a0).bind fun t120 => (if t120 = t117 then ((word_Make.f (t115 == 1) (wrap64 (t116)) t117).bind fun t121 => (gimballaw01_WordParts.j0 k a0 t116 t117 (t121 != a0))) else (gimballaw01_WordParts.j0 k a0 t116 t117 true))) else (gimballaw01_WordParts.j0 k a0 t116 t117 true))))) = some r := H
    have A4 := Aside0.mk A40
    clear A40
    have HC5 := Aside0.mk H
    clear H
    go_enter Try.func10, Try.ntmps10
    go_upto_region 4 with (first | ((with_reducible refine gate_callee (f := 24) rfl ?_); refine goesL_ (some 11) rfl rfl Try.func24 (by kernel_rfl) rfl #[] rfl (by (try simp only [List.map_toArray, List.map_cons, List.map_nil]); first | done | rfl | (simp only [List.length_drop, List.length_take]; rfl)) ?_; (with_reducible refine (gimballaw01_head.calls k  true _ A2.out).mono ?_); rintro e w' ⟨rfl, ⟨nd, rfl⟩⟩; refine ⟨_, rfl, ?_⟩) | ((with_reducible refine gate_callee (f := 25) rfl ?_); refine goesL_ (some 15) rfl rfl Try.func25 (by kernel_rfl) rfl #[.int .u64 a0] rfl (by (try simp only [List.map_toArray, List.map_cons, List.map_nil]); first | done | rfl | (simp only [List.length_drop, List.length_take]; rfl)) ?_; (with_reducible refine (gimballaw01_split.calls a0 t115 t116 t117 _ A4.out).mono ?_); rintro e w' ⟨rfl, ⟨nd, rfl⟩⟩; refine ⟨_, rfl, ?_⟩))
    (try simp only [Act.put, List.setIfInBounds_toArray, List.set_cons_zero, List.set_cons_succ])
    go_cut [46] (fun v46 wc => ∃ (kq : Nat) (x46_4 : Bool), v46 = .bool x46_4 ∧ Aside0 (gimballaw01_WordParts.j0 kq a0 t116 t117 x46_4 = some r) ∧ Aside0 (kq ≤ k) ∧ Drawn0 w wc)
    case first =>
      have H := HC5.out
      clear HC5
      replace H := Option.bind_eq_some_iff.mp H
      obtain ⟨t118, A60, H⟩ := H
      replace H : (if (t118 != (t115 == 1)) = true then (gimballaw01_WordParts.j0 k a0 t116 t117 true) else ((word_Exp.f a0).bind fun t119 => (if t119 = (wrap64 (t116)) then ((word_Frac.f a0).bind fun t120 => (if t120 = t117 then ((word_Make.f (t115 == 1) (wrap64 (t116)) t117).bind fun t121 => (gimballaw01_WordParts.j0 k a0 t116 t117 (t121 != a0))) else (gimballaw01_WordParts.j0 k a0 t116 t117 true))) else (gimballaw01_WordParts.j0 k a0 t116 t117 true)))) = some r := H
      have A6 := Aside0.mk A60
      clear A60
      by_cases c7 : (t118 != (t115 == 1)) = true
      · rw [if_pos c7] at H
        have c7b0 : (t118 != (t115 == 1)) = true := c7
        (try (have c7b1 : decide (t118 = (t115 == 1)) = false := by simpa using c7))
        (try (have c7b2 : (t118 == (t115 == 1)) = false := by simpa using c7))
        (try (have c7b3 : ¬ (t118 = (t115 == 1)) := by simpa using c7))
        clear c7
        (first | rw [c7b0] | (simp only [i64_w, i32_w]; rw [c7b0]) | skip)
        have H' := Aside0.mk H
        clear H
        go_wp2_with (first | ((with_reducible refine gate_callee (f := 29) rfl ?_); refine goesL_ (some 20) rfl rfl Try.func29 (by kernel_rfl) rfl #[.int .u64 a0] rfl (by (try simp only [List.map_toArray, List.map_cons, List.map_nil]); first | done | rfl | (simp only [List.length_drop, List.length_take]; rfl)) ?_; (with_reducible refine (word_Neg.calls a0 t118 _ A6.out).mono ?_); rintro e w' ⟨rfl, ⟨nd, rfl⟩⟩; refine ⟨_, rfl, ?_⟩))
        go_meet
        case rel => exact ⟨_, (true), (by first | rfl | (simp; done) | (simp [*]; done)), H', ⟨by first | omega | exact Nat.le_refl _⟩, by repeat (first | exact Drawn0.refl _ | apply Drawn0.step)⟩
      · rw [if_neg c7] at H
        have c7b0 : (t118 != (t115 == 1)) = false := by simpa using c7
        (try (have c7b1 : decide (t118 = (t115 == 1)) = true := by simpa using c7))
        (try (have c7b2 : (t118 == (t115 == 1)) = true := by simpa using c7))
        clear c7
        (first | rw [c7b0] | (simp only [i64_w, i32_w]; rw [c7b0]) | skip)
        replace H := Option.bind_eq_some_iff.mp H
        obtain ⟨t119, A80, H⟩ := H
        replace H : (if t119 = (wrap64 (t116)) then ((word_Frac.f a0).bind fun t120 => (if t120 = t117 then ((word_Make.f (t115 == 1) (wrap64 (t116)) t117).bind fun t121 => (gimballaw01_WordParts.j0 k a0 t116 t117 (t121 != a0))) else (gimballaw01_WordParts.j0 k a0 t116 t117 true))) else (gimballaw01_WordParts.j0 k a0 t116 t117 true)) = some r := H
        have A8 := Aside0.mk A80
        clear A80
        by_cases c9 : t119 = (wrap64 (t116))
        · rw [if_pos c9] at H
          have c9b0 : (t119 == (wrap64 (t116))) = true := beq_iff_eq.mpr c9
          have c9b1 : (t119 != (wrap64 (t116))) = false := bne_eq_false_iff_eq.mpr c9
          clear c9
          replace H := Option.bind_eq_some_iff.mp H
          obtain ⟨t120, A100, H⟩ := H
          replace H : (if t120 = t117 then ((word_Make.f (t115 == 1) (wrap64 (t116)) t117).bind fun t121 => (gimballaw01_WordParts.j0 k a0 t116 t117 (t121 != a0))) else (gimballaw01_WordParts.j0 k a0 t116 t117 true)) = some r := H
          have A10 := Aside0.mk A100
          clear A100
          by_cases c11 : t120 = t117
          · rw [if_pos c11] at H
            have c11b0 : (t120 == t117) = true := beq_iff_eq.mpr c11
            have c11b1 : (t120 != t117) = false := bne_eq_false_iff_eq.mpr c11
            clear c11
            replace H := Option.bind_eq_some_iff.mp H
            obtain ⟨t121, A120, H⟩ := H
            replace H : (gimballaw01_WordParts.j0 k a0 t116 t117 (t121 != a0)) = some r := H
            have A12 := Aside0.mk A120
            clear A120
            have H' := Aside0.mk H
            clear H
            go_wp2_with (first | ((with_reducible refine gate_callee (f := 29) rfl ?_); refine goesL_ (some 20) rfl rfl Try.func29 (by kernel_rfl) rfl #[.int .u64 a0] rfl (by (try simp only [List.map_toArray, List.map_cons, List.map_nil]); first | done | rfl | (simp only [List.length_drop, List.length_take]; rfl)) ?_; (with_reducible refine (word_Neg.calls a0 t118 _ A6.out).mono ?_); rintro e w' ⟨rfl, ⟨nd, rfl⟩⟩; refine ⟨_, rfl, ?_⟩) | (go_at_call 37; (with_reducible refine (word_Exp.calls a0 t119 _ A8.out).mono ?_); rintro e w' ⟨rfl, ⟨nd, rfl⟩⟩) | (go_at_call 38; (with_reducible refine (word_Frac.calls a0 t120 _ A10.out).mono ?_); rintro e w' ⟨rfl, ⟨nd, rfl⟩⟩) | (go_at_call 33; (with_reducible refine (word_Make.calls (t115 == 1) (wrap64 (t116)) t117 t121 _ A12.out).mono ?_); rintro e w' ⟨rfl, ⟨nd, rfl⟩⟩))
            go_meet
            case rel => exact ⟨_, ((t121 != a0)), (by first | rfl | (simp; done) | (simp [*]; done)), H', ⟨by first | omega | exact Nat.le_refl _⟩, by repeat (first | exact Drawn0.refl _ | apply Drawn0.step)⟩
          · rw [if_neg c11] at H
            have c11b0 : (t120 == t117) = false := beq_eq_false_iff_ne.mpr c11
            have c11b1 : (t120 != t117) = true := bne_iff_ne.mpr c11
            have H' := Aside0.mk H
            clear H
            go_wp2_with (first | ((with_reducible refine gate_callee (f := 29) rfl ?_); refine goesL_ (some 20) rfl rfl Try.func29 (by kernel_rfl) rfl #[.int .u64 a0] rfl (by (try simp only [List.map_toArray, List.map_cons, List.map_nil]); first | done | rfl | (simp only [List.length_drop, List.length_take]; rfl)) ?_; (with_reducible refine (word_Neg.calls a0 t118 _ A6.out).mono ?_); rintro e w' ⟨rfl, ⟨nd, rfl⟩⟩; refine ⟨_, rfl, ?_⟩) | (go_at_call 37; (with_reducible refine (word_Exp.calls a0 t119 _ A8.out).mono ?_); rintro e w' ⟨rfl, ⟨nd, rfl⟩⟩) | (go_at_call 38; (with_reducible refine (word_Frac.calls a0 t120 _ A10.out).mono ?_); rintro e w' ⟨rfl, ⟨nd, rfl⟩⟩))
            go_meet
            case rel => exact ⟨_, (true), (by first | rfl | (simp; done) | (simp [*]; done)), H', ⟨by first | omega | exact Nat.le_refl _⟩, by repeat (first | exact Drawn0.refl _ | apply Drawn0.step)⟩
        · rw [if_neg c9] at H
          have c9b0 : (t119 == (wrap64 (t116))) = false := beq_eq_false_iff_ne.mpr c9
          have c9b1 : (t119 != (wrap64 (t116))) = true := bne_iff_ne.mpr c9
          have H' := Aside0.mk H
          clear H
          go_wp2_with (first | ((with_reducible refine gate_callee (f := 29) rfl ?_); refine goesL_ (some 20) rfl rfl Try.func29 (by kernel_rfl) rfl #[.int .u64 a0] rfl (by (try simp only [List.map_toArray, List.map_cons, List.map_nil]); first | done | rfl | (simp only [List.length_drop, List.length_take]; rfl)) ?_; (with_reducible refine (word_Neg.calls a0 t118 _ A6.out).mono ?_); rintro e w' ⟨rfl, ⟨nd, rfl⟩⟩; refine ⟨_, rfl, ?_⟩) | (go_at_call 37; (with_reducible refine (word_Exp.calls a0 t119 _ A8.out).mono ?_); rintro e w' ⟨rfl, ⟨nd, rfl⟩⟩))
          go_meet
          case rel => exact ⟨_, (true), (by first | rfl | (simp; done) | (simp [*]; done)), H', ⟨by first | omega | exact Nat.le_refl _⟩, by repeat (first | exact Drawn0.refl _ | apply Drawn0.step)⟩
    case rest =>
      clear HC5
      try clear c1
      try clear c2
      try clear p2
      try clear c3
      try clear p6
      try clear c7
      try clear c7b0
      try clear c7b1
      try clear c7b2
      try clear c9
      try clear c9b0
      try clear c9b1
      try clear c10
      try clear c11
      try clear c11b0
      try clear c11b1
      obtain ⟨kq, x46_4, rfl, HA, HJ4, ⟨mc4, rfl⟩⟩ := hcut
      cases kq with
      | zero => exact absurd HA.out (by simp [gimballaw01_WordParts.j0])
      | succ kj4 =>
        have H := HA.out
        clear HA
        simp only [gimballaw01_WordParts.j0] at H
        by_cases c13 : x46_4 = true
        · subst c13
          have H1 : (some false) = some r := by rw [if_pos rfl] at H; exact H
          clear H
          have H := H1
          clear H1
          obtain rfl := Option.some.inj H
          go_wp2
          go_ret
          exact ⟨by first | rfl | (simp; done) | (simp [*]; done), by repeat (first | exact Drawn0.refl _ | apply Drawn0.step)⟩
        · replace c13 := Bool.eq_false_iff.mpr c13
          subst c13
          have H1 : (if t116 = 0 then (if t117 = 0 then (gimballaw01_WordParts.j1 kj4 a0 t116 t117 1 t117 0) else (gimballaw01_WordParts.j1 kj4 a0 t116 t117 2 t117 (-1074))) else (gimballaw01_WordParts.j1 kj4 a0 t116 t117 3 (IntKind.u64.wrap (t117 + 4503599627370496)) (wrap64 ((wrap64 (t116)) - 1075)))) = some r := by rw [if_neg (show ¬ (false = true) by decide)] at H; exact H
          clear H
          have H := H1
          clear H1
          have HC14 := Aside0.mk H
          clear H
          go_upto_if 53 with (fail)
          go_cut [6, 7, 8] (fun v6 v7 v8 wc => ∃ (kq : Nat) (x6_13 : Int) (x7_13 : Int) (x8_13 : Int), v6 = .int .i64 x6_13 ∧ v7 = .int .u64 x7_13 ∧ v8 = .int .i64 x8_13 ∧ Aside0 (gimballaw01_WordParts.j1 kq a0 t116 t117 x6_13 x7_13 x8_13 = some r) ∧ Aside0 (kq ≤ kj4) ∧ Drawn0 w wc)
          case first =>
            have H := HC14.out
            clear HC14
            by_cases c15 : t116 = 0
            · rw [if_pos c15] at H
              have c15b0 : (t116 == 0) = true := beq_iff_eq.mpr c15
              have c15b1 : (t116 != 0) = false := bne_eq_false_iff_eq.mpr c15
              clear c15
              (first | rw [c15b0] | (simp only [i64_w, i32_w]; rw [c15b0]) | skip)
              by_cases c16 : t117 = 0
              · rw [if_pos c16] at H
                have c16b0 : (t117 == 0) = true := beq_iff_eq.mpr c16
                have c16b1 : (t117 != 0) = false := bne_eq_false_iff_eq.mpr c16
                clear c16
                have H' := Aside0.mk H
                clear H
                go_wp2
                go_meet
                case rel => exact ⟨_, (1), (t117), (0), (by first | rfl | (simp; done) | (simp [*]; done)), (by first | rfl | (simp; done) | (simp [*]; done)), (by first | rfl | (simp; done) | (simp [*]; done)), H', ⟨by have := HJ4.out; first | omega | exact Nat.le_refl _⟩, by repeat (first | exact Drawn0.refl _ | apply Drawn0.step)⟩
              · rw [if_neg c16] at H
                have c16b0 : (t117 == 0) = false := beq_eq_false_iff_ne.mpr c16
                have c16b1 : (t117 != 0) = true := bne_iff_ne.mpr c16
                have H' := Aside0.mk H
                clear H
                go_wp2
                go_meet
                case rel => exact ⟨_, (2), (t117), ((-1074)), (by first | rfl | (simp; done) | (simp [*]; done)), (by first | rfl | (simp; done) | (simp [*]; done)), (by first | rfl | (simp; done) | (simp [*]; done)), H', ⟨by have := HJ4.out; first | omega | exact Nat.le_refl _⟩, by repeat (first | exact Drawn0.refl _ | apply Drawn0.step)⟩
            · rw [if_neg c15] at H
              have c15b0 : (t116 == 0) = false := beq_eq_false_iff_ne.mpr c15
              have c15b1 : (t116 != 0) = true := bne_iff_ne.mpr c15
              (first | rw [c15b0] | (simp only [i64_w, i32_w]; rw [c15b0]) | skip)
              have H' := Aside0.mk H
              clear H
              go_wp2
              go_meet
              case rel => exact ⟨_, (3), (IntKind.u64.wrap (t117 + 4503599627370496)), (wrap64 ((wrap64 (t116)) - 1075)), (by first | rfl | (simp; done) | (simp [*]; done)), (by first | rfl | (simp; done) | (simp [*]; done)), (by first | rfl | (simp; done) | (simp [*]; done)), H', ⟨by have := HJ4.out; first | omega | exact Nat.le_refl _⟩, by repeat (first | exact Drawn0.refl _ | apply Drawn0.step)⟩
          case rest =>
            clear HC14
            try clear c1
            try clear c2
            try clear p2
            try clear c3
            try clear c4
            try clear p6
            try clear c7
            try clear c7b0
            try clear c7b1
            try clear c7b2
            try clear c9
            try clear c9b0
            try clear c9b1
            try clear c10
            try clear c11
            try clear c11b0
            try clear c11b1
            try clear c13
            try clear c15
            try clear c15b0
            try clear c15b1
            try clear c16
            try clear c16b0
            try clear c16b1
            try clear p2
            try clear p6
            obtain ⟨kq, x6_13, x7_13, x8_13, rfl, rfl, rfl, HA, HJ13, ⟨mc13, rfl⟩⟩ := hcut
            cases kq with
            | zero => exact absurd HA.out (by simp [gimballaw01_WordParts.j1])
            | succ kj13 =>
              have H := HA.out
              clear HA
              simp only [gimballaw01_WordParts.j1] at H
              have HC17 := Aside0.mk H
              clear H
              go_upto_if 58 with (fail)
              go_cut [6, 7, 8] (fun v6 v7 v8 wc => ∃ (kq : Nat) (x6_16 : Int) (x7_16 : Int) (x8_16 : Int), v6 = .int .i64 x6_16 ∧ v7 = .int .u64 x7_16 ∧ v8 = .int .i64 x8_16 ∧ Aside0 (gimballaw01_WordParts.j2 kq a0 t116 t117 x6_16 x7_16 x8_16 = some r) ∧ Aside0 (kq ≤ kj13) ∧ Drawn0 w wc)
              case first =>
                have H := HC17.out
                clear HC17
                by_cases c18 : t116 = 2047
                · rw [if_pos c18] at H
                  have c18b0 : (t116 == 2047) = true := beq_iff_eq.mpr c18
                  have c18b1 : (t116 != 2047) = false := bne_eq_false_iff_eq.mpr c18
                  clear c18
                  (first | rw [c18b0] | (simp only [i64_w, i32_w]; rw [c18b0]) | skip)
                  by_cases c19 : t117 > 0
                  · rw [if_pos c19] at H
                    have c19b0 : decide (0 < t117) = true := decide_eq_true c19
                    clear c19
                    have H' := Aside0.mk H
                    clear H
                    go_wp2
                    go_meet
                    case rel => exact ⟨_, (5), (0), (0), (by first | rfl | (simp; done) | (simp [*]; done)), (by first | rfl | (simp; done) | (simp [*]; done)), (by first | rfl | (simp; done) | (simp [*]; done)), H', ⟨by have := HJ4.out; have := HJ13.out; first | omega | exact Nat.le_refl _⟩, by repeat (first | exact Drawn0.refl _ | apply Drawn0.step)⟩
                  · rw [if_neg c19] at H
                    have c19b0 : decide (0 < t117) = false := decide_eq_false c19
                    clear c19
                    have H' := Aside0.mk H
                    clear H
                    go_wp2
                    go_meet
                    case rel => exact ⟨_, (4), (0), (0), (by first | rfl | (simp; done) | (simp [*]; done)), (by first | rfl | (simp; done) | (simp [*]; done)), (by first | rfl | (simp; done) | (simp [*]; done)), H', ⟨by have := HJ4.out; have := HJ13.out; first | omega | exact Nat.le_refl _⟩, by repeat (first | exact Drawn0.refl _ | apply Drawn0.step)⟩
                · rw [if_neg c18] at H
                  have c18b0 : (t116 == 2047) = false := beq_eq_false_iff_ne.mpr c18
                  have c18b1 : (t116 != 2047) = true := bne_iff_ne.mpr c18
                  (first | rw [c18b0] | (simp only [i64_w, i32_w]; rw [c18b0]) | skip)
                  have H' := Aside0.mk H
                  clear H
                  go_wp2
                  go_meet
                  case rel => exact ⟨_, (x6_13), (x7_13), (x8_13), (by first | rfl | (simp; done) | (simp [*]; done)), (by first | rfl | (simp; done) | (simp [*]; done)), (by first | rfl | (simp; done) | (simp [*]; done)), H', ⟨by have := HJ4.out; have := HJ13.out; first | omega | exact Nat.le_refl _⟩, by repeat (first | exact Drawn0.refl _ | apply Drawn0.step)⟩
              case rest =>
                clear HC17
                try clear c1
                try clear c2
                try clear p2
                try clear c3
                try clear c4
                try clear p6
                try clear c7
                try clear c7b0
                try clear c7b1
                try clear c7b2
                try clear c9
                try clear c9b0
                try clear c9b1
                try clear c10
                try clear c11
                try clear c11b0
                try clear c11b1
                try clear c13
                try clear c15
                try clear c15b0
                try clear c15b1
                try clear c16
                try clear c16b0
                try clear c16b1
                try clear c18
                try clear c18b0
                try clear c18b1
                try clear c19
                try clear c19b0
                try clear p2
                try clear p6
                obtain ⟨kq, x6_16, x7_16, x8_16, rfl, rfl, rfl, HA, HJ16, ⟨mc16, rfl⟩⟩ := hcut
                cases kq with
                | zero => exact absurd HA.out (by simp [gimballaw01_WordParts.j2])
                | succ kj16 =>
                  have H := HA.out
                  clear HA
                  simp only [gimballaw01_WordParts.j2] at H
                  replace H := Option.bind_eq_some_iff.mp H
                  obtain ⟨⟨t122, t123⟩, A200, H⟩ := H
                  replace H : ((word_Kind.f kj16 a0).bind fun t124 => (if t124 = x6_16 then (if t122 = x7_16 then (if t123 = x8_16 then ((word_Finite.f a0).bind fun t125 => (if (t125 == (decide (t116 < 2047))) = true then ((word_Signals.f kj16 a0).bind fun t126 => (if x6_16 = 5 then (some (t126 == (decide (t117 < 2251799813685248)))) else (some (t126 == false)))) else (some false))) else (some false)) else (some false)) else (some false))) = some r := H
                  have A20 := Aside0.mk A200
                  clear A200
                  replace H := Option.bind_eq_some_iff.mp H
                  obtain ⟨t124, A210, H⟩ := H
                  replace H : (if t124 = x6_16 then (if t122 = x7_16 then (if t123 = x8_16 then ((word_Finite.f a0).bind fun t125 => (if (t125 == (decide (t116 < 2047))) = true then ((word_Signals.f kj16 a0).bind fun t126 => (if x6_16 = 5 then (some (t126 == (decide (t117 < 2251799813685248)))) else (some (t126 == false)))) else (some false))) else (some false)) else (some false)) else (some false)) = some r := H
                  have A21 := Aside0.mk A210
                  clear A210
                  by_cases c22 : t124 = x6_16
                  · rw [if_pos c22] at H
                    have c22b0 : (t124 == x6_16) = true := beq_iff_eq.mpr c22
                    have c22b1 : (t124 != x6_16) = false := bne_eq_false_iff_eq.mpr c22
                    clear c22
                    by_cases c23 : t122 = x7_16
                    · rw [if_pos c23] at H
                      have c23b0 : (t122 == x7_16) = true := beq_iff_eq.mpr c23
                      have c23b1 : (t122 != x7_16) = false := bne_eq_false_iff_eq.mpr c23
                      clear c23
                      by_cases c24 : t123 = x8_16
                      · rw [if_pos c24] at H
                        have c24b0 : (t123 == x8_16) = true := beq_iff_eq.mpr c24
                        have c24b1 : (t123 != x8_16) = false := bne_eq_false_iff_eq.mpr c24
                        clear c24
                        replace H := Option.bind_eq_some_iff.mp H
                        obtain ⟨t125, A250, H⟩ := H
                        replace H : (if (t125 == (decide (t116 < 2047))) = true then ((word_Signals.f kj16 a0).bind fun t126 => (if x6_16 = 5 then (some (t126 == (decide (t117 < 2251799813685248)))) else (some (t126 == false)))) else (some false)) = some r := H
                        have A25 := Aside0.mk A250
                        clear A250
                        by_cases c26 : (t125 == (decide (t116 < 2047))) = true
                        · rw [if_pos c26] at H
                          have c26b0 : (t125 == (decide (t116 < 2047))) = true := c26
                          (try (have c26b1 : decide (t125 = (decide (t116 < 2047))) = true := by simpa using c26))
                          (try (have c26b2 : (t125 == (decide (t116 < 2047))) = true := by simpa using c26))
                          clear c26
                          replace H := Option.bind_eq_some_iff.mp H
                          obtain ⟨t126, A270, H⟩ := H
                          replace H : (if x6_16 = 5 then (some (t126 == (decide (t117 < 2251799813685248)))) else (some (t126 == false))) = some r := H
                          have A27 := Aside0.mk A270
                          clear A270
                          by_cases c28 : x6_16 = 5
                          · rw [if_pos c28] at H
                            have c28b0 : (x6_16 == 5) = true := beq_iff_eq.mpr c28
                            have c28b1 : (x6_16 != 5) = false := bne_eq_false_iff_eq.mpr c28
                            clear c28
                            obtain rfl := Option.some.inj H
                            go_wp2_with (first | ((with_reducible refine gate_callee (f := 39) rfl ?_); refine goesL_ (some 63) rfl rfl Try.func39 (by kernel_rfl) rfl #[.int .u64 a0] rfl (by (try simp only [List.map_toArray, List.map_cons, List.map_nil]); first | done | rfl | (simp only [List.length_drop, List.length_take]; rfl)) ?_; (with_reducible refine (word_Parts.calls kj16 a0 t122 t123 _ A20.out).mono ?_); rintro e w' ⟨rfl, ⟨nd, rfl⟩⟩; refine ⟨_, rfl, ?_⟩) | ((with_reducible refine gate_callee (f := 31) rfl ?_); refine goesL_ (some 67) rfl rfl Try.func31 (by kernel_rfl) rfl #[.int .u64 a0] rfl (by (try simp only [List.map_toArray, List.map_cons, List.map_nil]); first | done | rfl | (simp only [List.length_drop, List.length_take]; rfl)) ?_; (with_reducible refine (word_Kind.calls kj16 a0 t124 _ A21.out).mono ?_); rintro e w' ⟨rfl, ⟨nd, rfl⟩⟩; refine ⟨_, rfl, ?_⟩) | (go_at_call 40; (with_reducible refine (word_Finite.calls a0 t125 _ A25.out).mono ?_); rintro e w' ⟨rfl, ⟨nd, rfl⟩⟩) | (go_at_call 41; (with_reducible refine (word_Signals.calls kj16 a0 t126 _ A27.out).mono ?_); rintro e w' ⟨rfl, ⟨nd, rfl⟩⟩))
                            go_ret
                            exact ⟨by first | rfl | (simp; done) | (simp [*]; done), by repeat (first | exact Drawn0.refl _ | apply Drawn0.step)⟩
                          · rw [if_neg c28] at H
                            have c28b0 : (x6_16 == 5) = false := beq_eq_false_iff_ne.mpr c28
                            have c28b1 : (x6_16 != 5) = true := bne_iff_ne.mpr c28
                            obtain rfl := Option.some.inj H
                            go_wp2_with (first | ((with_reducible refine gate_callee (f := 39) rfl ?_); refine goesL_ (some 63) rfl rfl Try.func39 (by kernel_rfl) rfl #[.int .u64 a0] rfl (by (try simp only [List.map_toArray, List.map_cons, List.map_nil]); first | done | rfl | (simp only [List.length_drop, List.length_take]; rfl)) ?_; (with_reducible refine (word_Parts.calls kj16 a0 t122 t123 _ A20.out).mono ?_); rintro e w' ⟨rfl, ⟨nd, rfl⟩⟩; refine ⟨_, rfl, ?_⟩) | ((with_reducible refine gate_callee (f := 31) rfl ?_); refine goesL_ (some 67) rfl rfl Try.func31 (by kernel_rfl) rfl #[.int .u64 a0] rfl (by (try simp only [List.map_toArray, List.map_cons, List.map_nil]); first | done | rfl | (simp only [List.length_drop, List.length_take]; rfl)) ?_; (with_reducible refine (word_Kind.calls kj16 a0 t124 _ A21.out).mono ?_); rintro e w' ⟨rfl, ⟨nd, rfl⟩⟩; refine ⟨_, rfl, ?_⟩) | (go_at_call 40; (with_reducible refine (word_Finite.calls a0 t125 _ A25.out).mono ?_); rintro e w' ⟨rfl, ⟨nd, rfl⟩⟩) | (go_at_call 41; (with_reducible refine (word_Signals.calls kj16 a0 t126 _ A27.out).mono ?_); rintro e w' ⟨rfl, ⟨nd, rfl⟩⟩))
                            go_ret
                            exact ⟨by first | rfl | (simp; done) | (simp [*]; done), by repeat (first | exact Drawn0.refl _ | apply Drawn0.step)⟩
                        · rw [if_neg c26] at H
                          have c26b0 : (t125 == (decide (t116 < 2047))) = false := by simpa using c26
                          (try (have c26b1 : decide (t125 = (decide (t116 < 2047))) = false := by simpa using c26))
                          (try (have c26b2 : (t125 == (decide (t116 < 2047))) = false := by simpa using c26))
                          (try (have c26b3 : ¬ (t125 = (decide (t116 < 2047))) := by simpa using c26))
                          clear c26
                          obtain rfl := Option.some.inj H
                          go_wp2_with (first | ((with_reducible refine gate_callee (f := 39) rfl ?_); refine goesL_ (some 63) rfl rfl Try.func39 (by kernel_rfl) rfl #[.int .u64 a0] rfl (by (try simp only [List.map_toArray, List.map_cons, List.map_nil]); first | done | rfl | (simp only [List.length_drop, List.length_take]; rfl)) ?_; (with_reducible refine (word_Parts.calls kj16 a0 t122 t123 _ A20.out).mono ?_); rintro e w' ⟨rfl, ⟨nd, rfl⟩⟩; refine ⟨_, rfl, ?_⟩) | ((with_reducible refine gate_callee (f := 31) rfl ?_); refine goesL_ (some 67) rfl rfl Try.func31 (by kernel_rfl) rfl #[.int .u64 a0] rfl (by (try simp only [List.map_toArray, List.map_cons, List.map_nil]); first | done | rfl | (simp only [List.length_drop, List.length_take]; rfl)) ?_; (with_reducible refine (word_Kind.calls kj16 a0 t124 _ A21.out).mono ?_); rintro e w' ⟨rfl, ⟨nd, rfl⟩⟩; refine ⟨_, rfl, ?_⟩) | (go_at_call 40; (with_reducible refine (word_Finite.calls a0 t125 _ A25.out).mono ?_); rintro e w' ⟨rfl, ⟨nd, rfl⟩⟩))
                          go_ret
                          exact ⟨by first | rfl | (simp; done) | (simp [*]; done), by repeat (first | exact Drawn0.refl _ | apply Drawn0.step)⟩
                      · rw [if_neg c24] at H
                        have c24b0 : (t123 == x8_16) = false := beq_eq_false_iff_ne.mpr c24
                        have c24b1 : (t123 != x8_16) = true := bne_iff_ne.mpr c24
                        obtain rfl := Option.some.inj H
                        go_wp2_with (first | ((with_reducible refine gate_callee (f := 39) rfl ?_); refine goesL_ (some 63) rfl rfl Try.func39 (by kernel_rfl) rfl #[.int .u64 a0] rfl (by (try simp only [List.map_toArray, List.map_cons, List.map_nil]); first | done | rfl | (simp only [List.length_drop, List.length_take]; rfl)) ?_; (with_reducible refine (word_Parts.calls kj16 a0 t122 t123 _ A20.out).mono ?_); rintro e w' ⟨rfl, ⟨nd, rfl⟩⟩; refine ⟨_, rfl, ?_⟩) | ((with_reducible refine gate_callee (f := 31) rfl ?_); refine goesL_ (some 67) rfl rfl Try.func31 (by kernel_rfl) rfl #[.int .u64 a0] rfl (by (try simp only [List.map_toArray, List.map_cons, List.map_nil]); first | done | rfl | (simp only [List.length_drop, List.length_take]; rfl)) ?_; (with_reducible refine (word_Kind.calls kj16 a0 t124 _ A21.out).mono ?_); rintro e w' ⟨rfl, ⟨nd, rfl⟩⟩; refine ⟨_, rfl, ?_⟩))
                        go_ret
                        exact ⟨by first | rfl | (simp; done) | (simp [*]; done), by repeat (first | exact Drawn0.refl _ | apply Drawn0.step)⟩
                    · rw [if_neg c23] at H
                      have c23b0 : (t122 == x7_16) = false := beq_eq_false_iff_ne.mpr c23
                      have c23b1 : (t122 != x7_16) = true := bne_iff_ne.mpr c23
                      obtain rfl := Option.some.inj H
                      go_wp2_with (first | ((with_reducible refine gate_callee (f := 39) rfl ?_); refine goesL_ (some 63) rfl rfl Try.func39 (by kernel_rfl) rfl #[.int .u64 a0] rfl (by (try simp only [List.map_toArray, List.map_cons, List.map_nil]); first | done | rfl | (simp only [List.length_drop, List.length_take]; rfl)) ?_; (with_reducible refine (word_Parts.calls kj16 a0 t122 t123 _ A20.out).mono ?_); rintro e w' ⟨rfl, ⟨nd, rfl⟩⟩; refine ⟨_, rfl, ?_⟩) | ((with_reducible refine gate_callee (f := 31) rfl ?_); refine goesL_ (some 67) rfl rfl Try.func31 (by kernel_rfl) rfl #[.int .u64 a0] rfl (by (try simp only [List.map_toArray, List.map_cons, List.map_nil]); first | done | rfl | (simp only [List.length_drop, List.length_take]; rfl)) ?_; (with_reducible refine (word_Kind.calls kj16 a0 t124 _ A21.out).mono ?_); rintro e w' ⟨rfl, ⟨nd, rfl⟩⟩; refine ⟨_, rfl, ?_⟩))
                      go_ret
                      exact ⟨by first | rfl | (simp; done) | (simp [*]; done), by repeat (first | exact Drawn0.refl _ | apply Drawn0.step)⟩
                  · rw [if_neg c22] at H
                    have c22b0 : (t124 == x6_16) = false := beq_eq_false_iff_ne.mpr c22
                    have c22b1 : (t124 != x6_16) = true := bne_iff_ne.mpr c22
                    obtain rfl := Option.some.inj H
                    go_wp2_with (first | ((with_reducible refine gate_callee (f := 39) rfl ?_); refine goesL_ (some 63) rfl rfl Try.func39 (by kernel_rfl) rfl #[.int .u64 a0] rfl (by (try simp only [List.map_toArray, List.map_cons, List.map_nil]); first | done | rfl | (simp only [List.length_drop, List.length_take]; rfl)) ?_; (with_reducible refine (word_Parts.calls kj16 a0 t122 t123 _ A20.out).mono ?_); rintro e w' ⟨rfl, ⟨nd, rfl⟩⟩; refine ⟨_, rfl, ?_⟩) | ((with_reducible refine gate_callee (f := 31) rfl ?_); refine goesL_ (some 67) rfl rfl Try.func31 (by kernel_rfl) rfl #[.int .u64 a0] rfl (by (try simp only [List.map_toArray, List.map_cons, List.map_nil]); first | done | rfl | (simp only [List.length_drop, List.length_take]; rfl)) ?_; (with_reducible refine (word_Kind.calls kj16 a0 t124 _ A21.out).mono ?_); rintro e w' ⟨rfl, ⟨nd, rfl⟩⟩; refine ⟨_, rfl, ?_⟩))
                    go_ret
                    exact ⟨by first | rfl | (simp; done) | (simp [*]; done), by repeat (first | exact Drawn0.refl _ | apply Drawn0.step)⟩
  · replace c3 := Bool.eq_false_iff.mpr c3
    subst c3
    have H1 : (some false) = some r := by rw [if_neg (show ¬ (false = true) by decide)] at H; exact H
    clear H
    have H := H1
    clear H1
    obtain rfl := Option.some.inj H
    go_enter Try.func10, Try.ntmps10
    go_wp2_with (first | ((with_reducible refine gate_callee (f := 24) rfl ?_); refine goesL_ (some 11) rfl rfl Try.func24 (by kernel_rfl) rfl #[] rfl (by (try simp only [List.map_toArray, List.map_cons, List.map_nil]); first | done | rfl | (simp only [List.length_drop, List.length_take]; rfl)) ?_; (with_reducible refine (gimballaw01_head.calls k  false _ A2.out).mono ?_); rintro e w' ⟨rfl, ⟨nd, rfl⟩⟩; refine ⟨_, rfl, ?_⟩))
    go_ret
    exact ⟨by first | rfl | (simp; done) | (simp [*]; done), by repeat (first | exact Drawn0.refl _ | apply Drawn0.step)⟩

/-- THE ONE PURE STATEMENT of gimballaw01_WordParts: yours. -/
def gimballaw01_WordParts.Pure : Prop := ∀ (a0 : Int), (Lit.int .u64 a0).wf = true → ∃ k, gimballaw01_WordParts.f k a0 = some true
theorem gimballaw01_WordParts.walk (P : gimballaw01_WordParts.Pure) (a0 : Int) (w : World) (w0 : (Lit.int .u64 a0).wf = true) :
    Calls Try.prog 10 #[.int .u64 a0] w fun e w' => e = .returned (.bool true) ∧ Below w.heap.size w w' := by
  obtain ⟨k, h⟩ := P a0 w0
  refine (gimballaw01_WordParts.calls k a0 true w h).mono ?_
  rintro e w' ⟨rfl, hd⟩
  exact ⟨rfl, hd.below⟩

end Go.Proofs.Ytjamobbfafjdmaa.PWordParts
