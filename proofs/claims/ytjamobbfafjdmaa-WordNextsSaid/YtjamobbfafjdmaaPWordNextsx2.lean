-- PRINTED BY print.sh 35421559b90ae4d0a3588c463048766b98c2df88dd9212a6774a882060cdf62d: not written by this session
import Derived.Test.YtjamobbfafjdmaaPWordNextsx0
import Derived.Test.YtjamobbfafjdmaaPWordNextsx1
namespace Go.Proofs.Ytjamobbfafjdmaa.PWordNexts
open Go.RowKit Go.Proofs.YtjamobbfafjdmaaW.PrintWords Go.Proofs.YtjamobbfafjdmaaW.PrintLast Go.Proofs.YtjamobbfafjdmaaW.PrintMore
attribute [local go_sem] max2_int min2_int max_two min_two max_three min_three max_four min_four   -- for this text's walks alone
set_option linter.unusedVariables false
set_option linter.unusedSimpArgs false

/-! ### gimballaw01_WordNexts: function 8 -/
mutual
def gimballaw01_WordNexts.j0 : Nat → Int → Int → Int → Int → Option (Bool)
  | 0, _, _, _, _ => none
  | k + 1, x0, x1, x5, x6 => if x0 = 18442240474082181120 then (if x6 = x0 then (gimballaw01_WordNexts.j1 k x0 x1 x5 x6) else (some false)) else ((gimballaw01_less.f k x6 x0).bind fun t127 => (if t127 = true then (gimballaw01_WordNexts.j1 k x0 x1 x5 x6) else (some false)))
def gimballaw01_WordNexts.j1 : Nat → Int → Int → Int → Int → Option (Bool)
  | 0, _, _, _, _ => none
  | k + 1, x0, x1, x5, x6 => (word_Kind.f k x1).bind fun t128 => (if t128 = 5 then (some true) else ((gimballaw01_less.f k x0 x1).bind fun t129 => (if t129 = true then ((gimballaw01_less.f k x1 x5).bind fun t130 => (if t130 = true then (some false) else ((gimballaw01_less.f k x6 x1).bind fun t131 => (if t131 = true then ((gimballaw01_less.f k x1 x0).bind fun t132 => (some (!t132))) else (some (!false)))))) else ((gimballaw01_less.f k x6 x1).bind fun t133 => (if t133 = true then ((gimballaw01_less.f k x1 x0).bind fun t134 => (some (!t134))) else (some (!false)))))))
end
def gimballaw01_WordNexts.f (k : Nat) (a0 : Int) (a1 : Int) : Option (Bool) := (gimballaw01_head.f k).bind fun t122 => (if t122 = true then ((word_Next.f k a0).bind fun t123 => ((word_Prev.f k a0).bind fun t124 => ((word_Kind.f k a0).bind fun t125 => (if t125 = 5 then (if t123 = a0 then (some (t124 == a0)) else (some false)) else (if a0 = 9218868437227405312 then (if t123 = a0 then (gimballaw01_WordNexts.j0 k a0 a1 t123 t124) else (some false)) else ((gimballaw01_less.f k a0 t123).bind fun t126 => (if t126 = true then (gimballaw01_WordNexts.j0 k a0 a1 t123 t124) else (some false)))))))) else (some false))
theorem gimballaw01_WordNexts.mono_l : ∀ k, (∀ y0 y1 y2 y3, LeO (gimballaw01_WordNexts.j0 k y0 y1 y2 y3) (gimballaw01_WordNexts.j0 (k + 1) y0 y1 y2 y3)) ∧ (∀ y0 y1 y2 y3, LeO (gimballaw01_WordNexts.j1 k y0 y1 y2 y3) (gimballaw01_WordNexts.j1 (k + 1) y0 y1 y2 y3))
  | 0 => ⟨fun _ _ _ _ r h => by simp [gimballaw01_WordNexts.j0] at h, fun _ _ _ _ r h => by simp [gimballaw01_WordNexts.j1] at h⟩
  | k + 1 => by
    obtain ⟨ih0, ih1⟩ := gimballaw01_WordNexts.mono_l k
    refine ⟨?_, ?_⟩
    · intro y0 y1 y2 y3
      unfold gimballaw01_WordNexts.j0
      repeat' first
      | (with_reducible exact ih0 _ _ _ _)
      | (with_reducible exact ih1 _ _ _ _)
      | (with_reducible exact gimballaw01_head.mono _)
      | (with_reducible exact gimballaw01_less.mono _ _ _)
      | (with_reducible exact word_Kind.mono _ _)
      | (with_reducible exact word_Next.mono _ _)
      | (with_reducible exact word_Prev.mono _ _)
      | (with_reducible exact LeO.refl _)
      | (with_reducible exact LeO.none _)
      | (with_reducible refine LeO.ite ?_ ?_)
      | (with_reducible refine LeO.bind ?_ (fun _ => ?_))
      | exact ih0 _ _ _ _
      | exact ih1 _ _ _ _
      | exact gimballaw01_head.mono _
      | exact gimballaw01_less.mono _ _ _
      | exact word_Kind.mono _ _
      | exact word_Next.mono _ _
      | exact word_Prev.mono _ _
      | exact LeO.none _
      | refine LeO.ite ?_ ?_
      | refine LeO.bind ?_ (fun _ => ?_)
    · intro y0 y1 y2 y3
      unfold gimballaw01_WordNexts.j1
      repeat' first
      | (with_reducible exact ih0 _ _ _ _)
      | (with_reducible exact ih1 _ _ _ _)
      | (with_reducible exact gimballaw01_head.mono _)
      | (with_reducible exact gimballaw01_less.mono _ _ _)
      | (with_reducible exact word_Kind.mono _ _)
      | (with_reducible exact word_Next.mono _ _)
      | (with_reducible exact word_Prev.mono _ _)
      | (with_reducible exact LeO.refl _)
      | (with_reducible exact LeO.none _)
      | (with_reducible refine LeO.ite ?_ ?_)
      | (with_reducible refine LeO.bind ?_ (fun _ => ?_))
      | exact ih0 _ _ _ _
      | exact ih1 _ _ _ _
      | exact gimballaw01_head.mono _
      | exact gimballaw01_less.mono _ _ _
      | exact word_Kind.mono _ _
      | exact word_Next.mono _ _
      | exact word_Prev.mono _ _
      | exact LeO.none _
      | refine LeO.ite ?_ ?_
      | refine LeO.bind ?_ (fun _ => ?_)
theorem gimballaw01_WordNexts.mono : ∀ a0 a1 k, LeO (gimballaw01_WordNexts.f k a0 a1) (gimballaw01_WordNexts.f (k + 1) a0 a1) := by
  intro a0 a1 k
  obtain ⟨ih0, ih1⟩ := gimballaw01_WordNexts.mono_l k
  unfold gimballaw01_WordNexts.f
  repeat' first
      | (with_reducible exact ih0 _ _ _ _)
      | (with_reducible exact ih1 _ _ _ _)
      | (with_reducible exact gimballaw01_head.mono _)
      | (with_reducible exact gimballaw01_less.mono _ _ _)
      | (with_reducible exact word_Kind.mono _ _)
      | (with_reducible exact word_Next.mono _ _)
      | (with_reducible exact word_Prev.mono _ _)
      | (with_reducible exact LeO.refl _)
      | (with_reducible exact LeO.none _)
      | (with_reducible refine LeO.ite ?_ ?_)
      | (with_reducible refine LeO.bind ?_ (fun _ => ?_))
      | exact ih0 _ _ _ _
      | exact ih1 _ _ _ _
      | exact gimballaw01_head.mono _
      | exact gimballaw01_less.mono _ _ _
      | exact word_Kind.mono _ _
      | exact word_Next.mono _ _
      | exact word_Prev.mono _ _
      | exact LeO.none _
      | refine LeO.ite ?_ ?_
      | refine LeO.bind ?_ (fun _ => ?_)
set_option maxHeartbeats 8000000 in
set_option maxRecDepth 100000 in
theorem gimballaw01_WordNexts.calls (k : Nat) (a0 : Int) (a1 : Int) (r : Bool) (w : World) (h : gimballaw01_WordNexts.f k a0 a1 = some r) :
    Calls Try.prog 8 #[.int .u64 a0, .int .u64 a1] w fun e w' => e = .returned (.bool r) ∧ Drawn0 w w' := by
  have H : ((gimballaw01_head.f k).bind fun t122 => (if t122 = true then ((word_Next.f k a0).bind fun t123 => ((word_Prev.f k a0).bind fun t124 => ((word_Kind.f k a0).bind fun t125 => (if t125 = 5 then (if t123 = a0 then (some (t124 == a0)) else (some false)) else (if a0 = 9218868437227405312 then (if t123 = a0 then (gimballaw01_WordNexts.j0 k a0 a1 t123 t124) else (some false)) else ((gimballaw01_less.f k a0 t123).bind fun t126 => (if t126 = true then (gimballaw01_WordNexts.j0 k a0 a1 t123 t124) else (some false)))))))) else (some false))) = some r := h
  clear h
  replace H := Option.bind_eq_some_iff.mp H
  obtain ⟨t122, A30, H⟩ := H
  replace H : (if t122 = true then ((word_Next.f k a0).bind fun t123 => ((word_Prev.f k a0).bind fun t124 => ((word_Kind.f k a0).bind fun t125 => (if t125 = 5 then (if t123 = a0 then (some (t124 == a0)) else (some false)) else (if a0 = 9218868437227405312 then (if t123 = a0 then (gimballaw01_WordNexts.j0 k a0 a1 t123 t124) else (some false)) else ((gimballaw01_less.f k a0 t123).bind fun t126 => (if t126 = true then (gimballaw01_WordNexts.j0 k a0 a1 t123 t124) else (some false)))))))) else (some false)) = some r := H
  have A3 := Aside0.mk A30
  clear A30
  by_cases c4 : t122 = true
  · subst c4
    have H1 : ((word_Next.f k a0).bind fun t123 => ((word_Prev.f k a0).bind fun t124 => ((word_Kind.f k a0).bind fun t125 => (if t125 = 5 then (if t123 = a0 then (some (t124 == a0)) else (some false)) else (if a0 = 9218868437227405312 then (if t123 = a0 then (gimballaw01_WordNexts.j0 k a0 a1 t123 t124) else (some false)) else ((gimballaw01_less.f k a0 t123).bind fun t126 => (if t126 = true then (gimballaw01_WordNexts.j0 k a0 a1 t123 t124) else (some false)))))))) = some r := by rw [if_pos rfl] at H; exact H
    clear H
    have H := H1
    clear H1
    replace H := Option.bind_eq_some_iff.mp H
    obtain ⟨t123, A50, H⟩ := H
    replace H : ((word_Prev.f k a0).bind fun t124 => ((word_Kind.f k a0).bind fun t125 => (if t125 = 5 then (if t123 = a0 then (some (t124 == a0)) else (some false)) else (if a0 = 9218868437227405312 then (if t123 = a0 then (gimballaw01_WordNexts.j0 k a0 a1 t123 t124) else (some false)) else ((gimballaw01_less.f k a0 t123).bind fun t126 => (if t126 = true then (gimballaw01_WordNexts.j0 k a0 a1 t123 t124) else (some false))))))) = some r := H
    have A5 := Aside0.mk A50
    clear A50
    replace H := Option.bind_eq_some_iff.mp H
    obtain ⟨t124, A60, H⟩ := H
    replace H : ((word_Kind.f k a0).bind fun t125 => (if t125 = 5 then (if t123 = a0 then (some (t124 == a0)) else (some false)) else (if a0 = 9218868437227405312 then (if t123 = a0 then (gimballaw01_WordNexts.j0 k a0 a1 t123 t124) else (some false)) else ((gimballaw01_less.f k a0 t123).bind fun t126 => (if t126 = true then (gimballaw01_WordNexts.j0 k a0 a1 t123 t124) else (some false)))))) = some r := H
    have A6 := Aside0.mk A60
    clear A60
    replace H := Option.bind_eq_some_iff.mp H
    obtain ⟨t125, A70, H⟩ := H
    replace H : (if t125 = 5 then (if t123 = a0 then (some (t124 == a0)) else (some false)) else (if a0 = 9218868437227405312 then (if t123 = a0 then (gimballaw01_WordNexts.j0 k a0 a1 t123 t124) else (some false)) else ((gimballaw01_less.f k a0 t123).bind fun t126 => (if t126 = true then (gimballaw01_WordNexts.j0 k a0 a1 t123 t124) else (some false))))) = some r := H
    have A7 := Aside0.mk A70
    clear A70
    by_cases c8 : t125 = 5
    · rw [if_pos c8] at H
      have c8b0 : (t125 == 5) = true := beq_iff_eq.mpr c8
      have c8b1 : (t125 != 5) = false := bne_eq_false_iff_eq.mpr c8
      clear c8
      by_cases c9 : t123 = a0
      · rw [if_pos c9] at H
        have c9b0 : (t123 == a0) = true := beq_iff_eq.mpr c9
        have c9b1 : (t123 != a0) = false := bne_eq_false_iff_eq.mpr c9
        clear c9
        obtain rfl := Option.some.inj H
        go_enter Try.func8, Try.ntmps8
        go_wp2_with (first | ((with_reducible refine gate_callee (f := 24) rfl ?_); refine goesL_ (some 7) rfl rfl Try.func24 (by kernel_rfl) rfl #[] rfl (by (try simp only [List.map_toArray, List.map_cons, List.map_nil]); first | done | rfl | (simp only [List.length_drop, List.length_take]; rfl)) ?_; (with_reducible refine (gimballaw01_head.calls k  true _ A3.out).mono ?_); rintro e w' ⟨rfl, ⟨nd, rfl⟩⟩; refine ⟨_, rfl, ?_⟩) | ((with_reducible refine gate_callee (f := 34) rfl ?_); refine goesL_ (some 10) rfl rfl Try.func34 (by kernel_rfl) rfl #[.int .u64 a0] rfl (by (try simp only [List.map_toArray, List.map_cons, List.map_nil]); first | done | rfl | (simp only [List.length_drop, List.length_take]; rfl)) ?_; (with_reducible refine (word_Next.calls k a0 t123 _ A5.out).mono ?_); rintro e w' ⟨rfl, ⟨nd, rfl⟩⟩; refine ⟨_, rfl, ?_⟩) | ((with_reducible refine gate_callee (f := 35) rfl ?_); refine goesL_ (some 12) rfl rfl Try.func35 (by kernel_rfl) rfl #[.int .u64 a0] rfl (by (try simp only [List.map_toArray, List.map_cons, List.map_nil]); first | done | rfl | (simp only [List.length_drop, List.length_take]; rfl)) ?_; (with_reducible refine (word_Prev.calls k a0 t124 _ A6.out).mono ?_); rintro e w' ⟨rfl, ⟨nd, rfl⟩⟩; refine ⟨_, rfl, ?_⟩) | ((with_reducible refine gate_callee (f := 31) rfl ?_); refine goesL_ (some 14) rfl rfl Try.func31 (by kernel_rfl) rfl #[.int .u64 a0] rfl (by (try simp only [List.map_toArray, List.map_cons, List.map_nil]); first | done | rfl | (simp only [List.length_drop, List.length_take]; rfl)) ?_; (with_reducible refine (word_Kind.calls k a0 t125 _ A7.out).mono ?_); rintro e w' ⟨rfl, ⟨nd, rfl⟩⟩; refine ⟨_, rfl, ?_⟩))
        go_ret
        exact ⟨by first | rfl | (simp; done) | (simp [*]; done), by repeat (first | exact Drawn0.refl _ | apply Drawn0.step)⟩
      · rw [if_neg c9] at H
        have c9b0 : (t123 == a0) = false := beq_eq_false_iff_ne.mpr c9
        have c9b1 : (t123 != a0) = true := bne_iff_ne.mpr c9
        obtain rfl := Option.some.inj H
        go_enter Try.func8, Try.ntmps8
        go_wp2_with (first | ((with_reducible refine gate_callee (f := 24) rfl ?_); refine goesL_ (some 7) rfl rfl Try.func24 (by kernel_rfl) rfl #[] rfl (by (try simp only [List.map_toArray, List.map_cons, List.map_nil]); first | done | rfl | (simp only [List.length_drop, List.length_take]; rfl)) ?_; (with_reducible refine (gimballaw01_head.calls k  true _ A3.out).mono ?_); rintro e w' ⟨rfl, ⟨nd, rfl⟩⟩; refine ⟨_, rfl, ?_⟩) | ((with_reducible refine gate_callee (f := 34) rfl ?_); refine goesL_ (some 10) rfl rfl Try.func34 (by kernel_rfl) rfl #[.int .u64 a0] rfl (by (try simp only [List.map_toArray, List.map_cons, List.map_nil]); first | done | rfl | (simp only [List.length_drop, List.length_take]; rfl)) ?_; (with_reducible refine (word_Next.calls k a0 t123 _ A5.out).mono ?_); rintro e w' ⟨rfl, ⟨nd, rfl⟩⟩; refine ⟨_, rfl, ?_⟩) | ((with_reducible refine gate_callee (f := 35) rfl ?_); refine goesL_ (some 12) rfl rfl Try.func35 (by kernel_rfl) rfl #[.int .u64 a0] rfl (by (try simp only [List.map_toArray, List.map_cons, List.map_nil]); first | done | rfl | (simp only [List.length_drop, List.length_take]; rfl)) ?_; (with_reducible refine (word_Prev.calls k a0 t124 _ A6.out).mono ?_); rintro e w' ⟨rfl, ⟨nd, rfl⟩⟩; refine ⟨_, rfl, ?_⟩) | ((with_reducible refine gate_callee (f := 31) rfl ?_); refine goesL_ (some 14) rfl rfl Try.func31 (by kernel_rfl) rfl #[.int .u64 a0] rfl (by (try simp only [List.map_toArray, List.map_cons, List.map_nil]); first | done | rfl | (simp only [List.length_drop, List.length_take]; rfl)) ?_; (with_reducible refine (word_Kind.calls k a0 t125 _ A7.out).mono ?_); rintro e w' ⟨rfl, ⟨nd, rfl⟩⟩; refine ⟨_, rfl, ?_⟩))
        go_ret
        exact ⟨by first | rfl | (simp; done) | (simp [*]; done), by repeat (first | exact Drawn0.refl _ | apply Drawn0.step)⟩
    · rw [if_neg c8] at H
      have c8b0 : (t125 == 5) = false := beq_eq_false_iff_ne.mpr c8
      have c8b1 : (t125 != 5) = true := bne_iff_ne.mpr c8
      have HC10 := Aside0.mk H
      clear H
      go_enter Try.func8, Try.ntmps8
      go_upto_if 25 with (first | ((with_reducible refine gate_callee (f := 24) rfl ?_); refine goesL_ (some 7) rfl rfl Try.func24 (by kernel_rfl) rfl #[] rfl (by (try simp only [List.map_toArray, List.map_cons, List.map_nil]); first | done | rfl | (simp only [List.length_drop, List.length_take]; rfl)) ?_; (with_reducible refine (gimballaw01_head.calls k  true _ A3.out).mono ?_); rintro e w' ⟨rfl, ⟨nd, rfl⟩⟩; refine ⟨_, rfl, ?_⟩) | ((with_reducible refine gate_callee (f := 34) rfl ?_); refine goesL_ (some 10) rfl rfl Try.func34 (by kernel_rfl) rfl #[.int .u64 a0] rfl (by (try simp only [List.map_toArray, List.map_cons, List.map_nil]); first | done | rfl | (simp only [List.length_drop, List.length_take]; rfl)) ?_; (with_reducible refine (word_Next.calls k a0 t123 _ A5.out).mono ?_); rintro e w' ⟨rfl, ⟨nd, rfl⟩⟩; refine ⟨_, rfl, ?_⟩) | ((with_reducible refine gate_callee (f := 35) rfl ?_); refine goesL_ (some 12) rfl rfl Try.func35 (by kernel_rfl) rfl #[.int .u64 a0] rfl (by (try simp only [List.map_toArray, List.map_cons, List.map_nil]); first | done | rfl | (simp only [List.length_drop, List.length_take]; rfl)) ?_; (with_reducible refine (word_Prev.calls k a0 t124 _ A6.out).mono ?_); rintro e w' ⟨rfl, ⟨nd, rfl⟩⟩; refine ⟨_, rfl, ?_⟩) | ((with_reducible refine gate_callee (f := 31) rfl ?_); refine goesL_ (some 14) rfl rfl Try.func31 (by kernel_rfl) rfl #[.int .u64 a0] rfl (by (try simp only [List.map_toArray, List.map_cons, List.map_nil]); first | done | rfl | (simp only [List.length_drop, List.length_take]; rfl)) ?_; (with_reducible refine (word_Kind.calls k a0 t125 _ A7.out).mono ?_); rintro e w' ⟨rfl, ⟨nd, rfl⟩⟩; refine ⟨_, rfl, ?_⟩))
      (try simp only [Act.put, List.setIfInBounds_toArray, List.set_cons_zero, List.set_cons_succ])
      go_cut [] (fun wc => ∃ (kq : Nat), Aside0 (gimballaw01_WordNexts.j0 kq a0 a1 t123 t124 = some r) ∧ Aside0 (kq ≤ k) ∧ Drawn0 w wc)
      case first =>
        have H := HC10.out
        clear HC10
        by_cases c11 : a0 = 9218868437227405312
        · rw [if_pos c11] at H
          have c11b0 : (a0 == 9218868437227405312) = true := beq_iff_eq.mpr c11
          have c11b1 : (a0 != 9218868437227405312) = false := bne_eq_false_iff_eq.mpr c11
          clear c11
          (first | rw [c11b0] | (simp only [i64_w, i32_w]; rw [c11b0]) | skip)
          by_cases c12 : t123 = a0
          · rw [if_pos c12] at H
            have c12b0 : (t123 == a0) = true := beq_iff_eq.mpr c12
            have c12b1 : (t123 != a0) = false := bne_eq_false_iff_eq.mpr c12
            clear c12
            have H' := Aside0.mk H
            clear H
            go_wp2
            go_meet
            case rel => exact ⟨_, H', ⟨by first | omega | exact Nat.le_refl _⟩, by repeat (first | exact Drawn0.refl _ | apply Drawn0.step)⟩
          · rw [if_neg c12] at H
            have c12b0 : (t123 == a0) = false := beq_eq_false_iff_ne.mpr c12
            have c12b1 : (t123 != a0) = true := bne_iff_ne.mpr c12
            obtain rfl := Option.some.inj H
            go_wp2
            go_ret
            exact ⟨by first | rfl | (simp; done) | (simp [*]; done), by repeat (first | exact Drawn0.refl _ | apply Drawn0.step)⟩
        · rw [if_neg c11] at H
          have c11b0 : (a0 == 9218868437227405312) = false := beq_eq_false_iff_ne.mpr c11
          have c11b1 : (a0 != 9218868437227405312) = true := bne_iff_ne.mpr c11
          (first | rw [c11b0] | (simp only [i64_w, i32_w]; rw [c11b0]) | skip)
          replace H := Option.bind_eq_some_iff.mp H
          obtain ⟨t126, A130, H⟩ := H
          replace H : (if t126 = true then (gimballaw01_WordNexts.j0 k a0 a1 t123 t124) else (some false)) = some r := H
          have A13 := Aside0.mk A130
          clear A130
          by_cases c14 : t126 = true
          · subst c14
            have H1 : (gimballaw01_WordNexts.j0 k a0 a1 t123 t124) = some r := by rw [if_pos rfl] at H; exact H
            clear H
            have H := H1
            clear H1
            have H' := Aside0.mk H
            clear H
            go_wp2_with (first | ((with_reducible refine gate_callee (f := 36) rfl ?_); refine goesL_ (some 31) rfl rfl Try.func36 (by kernel_rfl) rfl #[.int .u64 a0, .int .u64 t123] rfl (by (try simp only [List.map_toArray, List.map_cons, List.map_nil]); first | done | rfl | (simp only [List.length_drop, List.length_take]; rfl)) ?_; (with_reducible refine (gimballaw01_less.calls k a0 t123 true _ A13.out).mono ?_); rintro e w' ⟨rfl, ⟨nd, rfl⟩⟩; refine ⟨_, rfl, ?_⟩))
            go_meet
            case rel => exact ⟨_, H', ⟨by first | omega | exact Nat.le_refl _⟩, by repeat (first | exact Drawn0.refl _ | apply Drawn0.step)⟩
          · replace c14 := Bool.eq_false_iff.mpr c14
            subst c14
            have H1 : (some false) = some r := by rw [if_neg (show ¬ (false = true) by decide)] at H; exact H
            clear H
            have H := H1
            clear H1
            obtain rfl := Option.some.inj H
            go_wp2_with (first | ((with_reducible refine gate_callee (f := 36) rfl ?_); refine goesL_ (some 31) rfl rfl Try.func36 (by kernel_rfl) rfl #[.int .u64 a0, .int .u64 t123] rfl (by (try simp only [List.map_toArray, List.map_cons, List.map_nil]); first | done | rfl | (simp only [List.length_drop, List.length_take]; rfl)) ?_; (with_reducible refine (gimballaw01_less.calls k a0 t123 false _ A13.out).mono ?_); rintro e w' ⟨rfl, ⟨nd, rfl⟩⟩; refine ⟨_, rfl, ?_⟩))
            go_ret
            exact ⟨by first | rfl | (simp; done) | (simp [*]; done), by repeat (first | exact Drawn0.refl _ | apply Drawn0.step)⟩
      case rest =>
        clear HC10
        try clear c1
        try clear c2
        try clear p2
        try clear c3
        try clear c4
        try clear c8
        try clear c8b0
        try clear c8b1
        try clear c9
        try clear c9b0
        try clear c9b1
        try clear c11
        try clear c11b0
        try clear c11b1
        try clear c12
        try clear c12b0
        try clear c12b1
        try clear c14
        obtain ⟨kq, HA, HJ9, ⟨mc9, rfl⟩⟩ := hcut
        cases kq with
        | zero => exact absurd HA.out (by simp [gimballaw01_WordNexts.j0])
        | succ kj9 =>
          have H := HA.out
          clear HA
          simp only [gimballaw01_WordNexts.j0] at H
          have HC15 := Aside0.mk H
          clear H
          go_upto_if 34 with (fail)
          go_cut [] (fun wc => ∃ (kq : Nat), Aside0 (gimballaw01_WordNexts.j1 kq a0 a1 t123 t124 = some r) ∧ Aside0 (kq ≤ kj9) ∧ Drawn0 w wc)
          case first =>
            have H := HC15.out
            clear HC15
            by_cases c16 : a0 = 18442240474082181120
            · rw [if_pos c16] at H
              have c16b0 : (a0 == 18442240474082181120) = true := beq_iff_eq.mpr c16
              have c16b1 : (a0 != 18442240474082181120) = false := bne_eq_false_iff_eq.mpr c16
              clear c16
              (first | rw [c16b0] | (simp only [i64_w, i32_w]; rw [c16b0]) | skip)
              by_cases c17 : t124 = a0
              · rw [if_pos c17] at H
                have c17b0 : (t124 == a0) = true := beq_iff_eq.mpr c17
                have c17b1 : (t124 != a0) = false := bne_eq_false_iff_eq.mpr c17
                clear c17
                have H' := Aside0.mk H
                clear H
                go_wp2
                go_meet
                case rel => exact ⟨_, H', ⟨by have := HJ9.out; first | omega | exact Nat.le_refl _⟩, by repeat (first | exact Drawn0.refl _ | apply Drawn0.step)⟩
              · rw [if_neg c17] at H
                have c17b0 : (t124 == a0) = false := beq_eq_false_iff_ne.mpr c17
                have c17b1 : (t124 != a0) = true := bne_iff_ne.mpr c17
                obtain rfl := Option.some.inj H
                go_wp2
                go_ret
                exact ⟨by first | rfl | (simp; done) | (simp [*]; done), by repeat (first | exact Drawn0.refl _ | apply Drawn0.step)⟩
            · rw [if_neg c16] at H
              have c16b0 : (a0 == 18442240474082181120) = false := beq_eq_false_iff_ne.mpr c16
              have c16b1 : (a0 != 18442240474082181120) = true := bne_iff_ne.mpr c16
              (first | rw [c16b0] | (simp only [i64_w, i32_w]; rw [c16b0]) | skip)
              replace H := Option.bind_eq_some_iff.mp H
              obtain ⟨t127, A180, H⟩ := H
              replace H : (if t127 = true then (gimballaw01_WordNexts.j1 kj9 a0 a1 t123 t124) else (some false)) = some r := H
              have A18 := Aside0.mk A180
              clear A180
              by_cases c19 : t127 = true
              · subst c19
                have H1 : (gimballaw01_WordNexts.j1 kj9 a0 a1 t123 t124) = some r := by rw [if_pos rfl] at H; exact H
                clear H
                have H := H1
                clear H1
                have H' := Aside0.mk H
                clear H
                go_wp2_with (first | ((with_reducible refine gate_callee (f := 36) rfl ?_); refine goesL_ (some 40) rfl rfl Try.func36 (by kernel_rfl) rfl #[.int .u64 t124, .int .u64 a0] rfl (by (try simp only [List.map_toArray, List.map_cons, List.map_nil]); first | done | rfl | (simp only [List.length_drop, List.length_take]; rfl)) ?_; (with_reducible refine (gimballaw01_less.calls kj9 t124 a0 true _ A18.out).mono ?_); rintro e w' ⟨rfl, ⟨nd, rfl⟩⟩; refine ⟨_, rfl, ?_⟩))
                go_meet
                case rel => exact ⟨_, H', ⟨by have := HJ9.out; first | omega | exact Nat.le_refl _⟩, by repeat (first | exact Drawn0.refl _ | apply Drawn0.step)⟩
              · replace c19 := Bool.eq_false_iff.mpr c19
                subst c19
                have H1 : (some false) = some r := by rw [if_neg (show ¬ (false = true) by decide)] at H; exact H
                clear H
                have H := H1
                clear H1
                obtain rfl := Option.some.inj H
                go_wp2_with (first | ((with_reducible refine gate_callee (f := 36) rfl ?_); refine goesL_ (some 40) rfl rfl Try.func36 (by kernel_rfl) rfl #[.int .u64 t124, .int .u64 a0] rfl (by (try simp only [List.map_toArray, List.map_cons, List.map_nil]); first | done | rfl | (simp only [List.length_drop, List.length_take]; rfl)) ?_; (with_reducible refine (gimballaw01_less.calls kj9 t124 a0 false _ A18.out).mono ?_); rintro e w' ⟨rfl, ⟨nd, rfl⟩⟩; refine ⟨_, rfl, ?_⟩))
                go_ret
                exact ⟨by first | rfl | (simp; done) | (simp [*]; done), by repeat (first | exact Drawn0.refl _ | apply Drawn0.step)⟩
          case rest =>
            clear HC15
            try clear c1
            try clear c2
            try clear p2
            try clear c3
            try clear c4
            try clear c8
            try clear c8b0
            try clear c8b1
            try clear c9
            try clear c9b0
            try clear c9b1
            try clear c11
            try clear c11b0
            try clear c11b1
            try clear c12
            try clear c12b0
            try clear c12b1
            try clear c14
            try clear c16
            try clear c16b0
            try clear c16b1
            try clear c17
            try clear c17b0
            try clear c17b1
            try clear c19
            try clear p2
            obtain ⟨kq, HA, HJ14, ⟨mc14, rfl⟩⟩ := hcut
            cases kq with
            | zero => exact absurd HA.out (by simp [gimballaw01_WordNexts.j1])
            | succ kj14 =>
              have H := HA.out
              clear HA
              simp only [gimballaw01_WordNexts.j1] at H
              replace H := Option.bind_eq_some_iff.mp H
              obtain ⟨t128, A200, H⟩ := H
              replace H : (if t128 = 5 then (some true) else ((gimballaw01_less.f kj14 a0 a1).bind fun t129 => (if t129 = true then ((gimballaw01_less.f kj14 a1 t123).bind fun t130 => (if t130 = true then (some false) else ((gimballaw01_less.f kj14 t124 a1).bind fun t131 => (if t131 = true then ((gimballaw01_less.f kj14 a1 a0).bind fun t132 => (some (!t132))) else (some (!false)))))) else ((gimballaw01_less.f kj14 t124 a1).bind fun t133 => (if t133 = true then ((gimballaw01_less.f kj14 a1 a0).bind fun t134 => (some (!t134))) else (some (!false))))))) = some r := H
              have A20 := Aside0.mk A200
              clear A200
              by_cases c21 : t128 = 5
              · rw [if_pos c21] at H
                have c21b0 : (t128 == 5) = true := beq_iff_eq.mpr c21
                have c21b1 : (t128 != 5) = false := bne_eq_false_iff_eq.mpr c21
                clear c21
                obtain rfl := Option.some.inj H
                go_wp2_with (first | ((with_reducible refine gate_callee (f := 31) rfl ?_); refine goesL_ (some 43) rfl rfl Try.func31 (by kernel_rfl) rfl #[.int .u64 a1] rfl (by (try simp only [List.map_toArray, List.map_cons, List.map_nil]); first | done | rfl | (simp only [List.length_drop, List.length_take]; rfl)) ?_; (with_reducible refine (word_Kind.calls kj14 a1 t128 _ A20.out).mono ?_); rintro e w' ⟨rfl, ⟨nd, rfl⟩⟩; refine ⟨_, rfl, ?_⟩))
                go_ret
                exact ⟨by first | rfl | (simp; done) | (simp [*]; done), by repeat (first | exact Drawn0.refl _ | apply Drawn0.step)⟩
              · rw [if_neg c21] at H
                have c21b0 : (t128 == 5) = false := beq_eq_false_iff_ne.mpr c21
                have c21b1 : (t128 != 5) = true := bne_iff_ne.mpr c21
                replace H := Option.bind_eq_some_iff.mp H
                obtain ⟨t129, A220, H⟩ := H
                replace H : (if t129 = true then ((gimballaw01_less.f kj14 a1 t123).bind fun t130 => (if t130 = true then (some false) else ((gimballaw01_less.f kj14 t124 a1).bind fun t131 => (if t131 = true then ((gimballaw01_less.f kj14 a1 a0).bind fun t132 => (some (!t132))) else (some (!false)))))) else ((gimballaw01_less.f kj14 t124 a1).bind fun t133 => (if t133 = true then ((gimballaw01_less.f kj14 a1 a0).bind fun t134 => (some (!t134))) else (some (!false))))) = some r := H
                have A22 := Aside0.mk A220
                clear A220
                by_cases c23 : t129 = true
                · subst c23
                  have H1 : ((gimballaw01_less.f kj14 a1 t123).bind fun t130 => (if t130 = true then (some false) else ((gimballaw01_less.f kj14 t124 a1).bind fun t131 => (if t131 = true then ((gimballaw01_less.f kj14 a1 a0).bind fun t132 => (some (!t132))) else (some (!false)))))) = some r := by rw [if_pos rfl] at H; exact H
                  clear H
                  have H := H1
                  clear H1
                  replace H := Option.bind_eq_some_iff.mp H
                  obtain ⟨t130, A240, H⟩ := H
                  replace H : (if t130 = true then (some false) else ((gimballaw01_less.f kj14 t124 a1).bind fun t131 => (if t131 = true then ((gimballaw01_less.f kj14 a1 a0).bind fun t132 => (some (!t132))) else (some (!false))))) = some r := H
                  have A24 := Aside0.mk A240
                  clear A240
                  by_cases c25 : t130 = true
                  · subst c25
                    have H1 : (some false) = some r := by rw [if_pos rfl] at H; exact H
                    clear H
                    have H := H1
                    clear H1
                    obtain rfl := Option.some.inj H
                    go_wp2_with (first | ((with_reducible refine gate_callee (f := 31) rfl ?_); refine goesL_ (some 43) rfl rfl Try.func31 (by kernel_rfl) rfl #[.int .u64 a1] rfl (by (try simp only [List.map_toArray, List.map_cons, List.map_nil]); first | done | rfl | (simp only [List.length_drop, List.length_take]; rfl)) ?_; (with_reducible refine (word_Kind.calls kj14 a1 t128 _ A20.out).mono ?_); rintro e w' ⟨rfl, ⟨nd, rfl⟩⟩; refine ⟨_, rfl, ?_⟩) | ((with_reducible refine gate_callee (f := 36) rfl ?_); refine goesL_ (some 47) rfl rfl Try.func36 (by kernel_rfl) rfl #[.int .u64 a0, .int .u64 a1] rfl (by (try simp only [List.map_toArray, List.map_cons, List.map_nil]); first | done | rfl | (simp only [List.length_drop, List.length_take]; rfl)) ?_; (with_reducible refine (gimballaw01_less.calls kj14 a0 a1 true _ A22.out).mono ?_); rintro e w' ⟨rfl, ⟨nd, rfl⟩⟩; refine ⟨_, rfl, ?_⟩) | (go_at_call 36; (with_reducible refine (gimballaw01_less.calls kj14 a1 t123 true _ A24.out).mono ?_); rintro e w' ⟨rfl, ⟨nd, rfl⟩⟩))
                    go_ret
                    exact ⟨by first | rfl | (simp; done) | (simp [*]; done), by repeat (first | exact Drawn0.refl _ | apply Drawn0.step)⟩
                  · replace c25 := Bool.eq_false_iff.mpr c25
                    subst c25
                    have H1 : ((gimballaw01_less.f kj14 t124 a1).bind fun t131 => (if t131 = true then ((gimballaw01_less.f kj14 a1 a0).bind fun t132 => (some (!t132))) else (some (!false)))) = some r := by rw [if_neg (show ¬ (false = true) by decide)] at H; exact H
                    clear H
                    have H := H1
                    clear H1
                    replace H := Option.bind_eq_some_iff.mp H
                    obtain ⟨t131, A260, H⟩ := H
                    replace H : (if t131 = true then ((gimballaw01_less.f kj14 a1 a0).bind fun t132 => (some (!t132))) else (some (!false))) = some r := H
                    have A26 := Aside0.mk A260
                    clear A260
                    by_cases c27 : t131 = true
                    · subst c27
                      have H1 : ((gimballaw01_less.f kj14 a1 a0).bind fun t132 => (some (!t132))) = some r := by rw [if_pos rfl] at H; exact H
                      clear H
                      have H := H1
                      clear H1
                      replace H := Option.bind_eq_some_iff.mp H
                      obtain ⟨t132, A280, H⟩ := H
                      replace H : (some (!t132)) = some r := H
                      have A28 := Aside0.mk A280
                      clear A280
                      obtain rfl := Option.some.inj H
                      go_wp2_with (first | ((with_reducible refine gate_callee (f := 31) rfl ?_); refine goesL_ (some 43) rfl rfl Try.func31 (by kernel_rfl) rfl #[.int .u64 a1] rfl (by (try simp only [List.map_toArray, List.map_cons, List.map_nil]); first | done | rfl | (simp only [List.length_drop, List.length_take]; rfl)) ?_; (with_reducible refine (word_Kind.calls kj14 a1 t128 _ A20.out).mono ?_); rintro e w' ⟨rfl, ⟨nd, rfl⟩⟩; refine ⟨_, rfl, ?_⟩) | ((with_reducible refine gate_callee (f := 36) rfl ?_); refine goesL_ (some 47) rfl rfl Try.func36 (by kernel_rfl) rfl #[.int .u64 a0, .int .u64 a1] rfl (by (try simp only [List.map_toArray, List.map_cons, List.map_nil]); first | done | rfl | (simp only [List.length_drop, List.length_take]; rfl)) ?_; (with_reducible refine (gimballaw01_less.calls kj14 a0 a1 true _ A22.out).mono ?_); rintro e w' ⟨rfl, ⟨nd, rfl⟩⟩; refine ⟨_, rfl, ?_⟩) | (go_at_call 36; (with_reducible refine (gimballaw01_less.calls kj14 a1 t123 false _ A24.out).mono ?_); rintro e w' ⟨rfl, ⟨nd, rfl⟩⟩) | (go_at_call 36; (with_reducible refine (gimballaw01_less.calls kj14 t124 a1 true _ A26.out).mono ?_); rintro e w' ⟨rfl, ⟨nd, rfl⟩⟩) | (go_at_call 36; (with_reducible refine (gimballaw01_less.calls kj14 a1 a0 t132 _ A28.out).mono ?_); rintro e w' ⟨rfl, ⟨nd, rfl⟩⟩))
                      go_ret
                      exact ⟨by first | rfl | (simp; done) | (simp [*]; done), by repeat (first | exact Drawn0.refl _ | apply Drawn0.step)⟩
                    · replace c27 := Bool.eq_false_iff.mpr c27
                      subst c27
                      have H1 : (some (!false)) = some r := by rw [if_neg (show ¬ (false = true) by decide)] at H; exact H
                      clear H
                      have H := H1
                      clear H1
                      obtain rfl := Option.some.inj H
                      go_wp2_with (first | ((with_reducible refine gate_callee (f := 31) rfl ?_); refine goesL_ (some 43) rfl rfl Try.func31 (by kernel_rfl) rfl #[.int .u64 a1] rfl (by (try simp only [List.map_toArray, List.map_cons, List.map_nil]); first | done | rfl | (simp only [List.length_drop, List.length_take]; rfl)) ?_; (with_reducible refine (word_Kind.calls kj14 a1 t128 _ A20.out).mono ?_); rintro e w' ⟨rfl, ⟨nd, rfl⟩⟩; refine ⟨_, rfl, ?_⟩) | ((with_reducible refine gate_callee (f := 36) rfl ?_); refine goesL_ (some 47) rfl rfl Try.func36 (by kernel_rfl) rfl #[.int .u64 a0, .int .u64 a1] rfl (by (try simp only [List.map_toArray, List.map_cons, List.map_nil]); first | done | rfl | (simp only [List.length_drop, List.length_take]; rfl)) ?_; (with_reducible refine (gimballaw01_less.calls kj14 a0 a1 true _ A22.out).mono ?_); rintro e w' ⟨rfl, ⟨nd, rfl⟩⟩; refine ⟨_, rfl, ?_⟩) | (go_at_call 36; (with_reducible refine (gimballaw01_less.calls kj14 a1 t123 false _ A24.out).mono ?_); rintro e w' ⟨rfl, ⟨nd, rfl⟩⟩) | (go_at_call 36; (with_reducible refine (gimballaw01_less.calls kj14 t124 a1 false _ A26.out).mono ?_); rintro e w' ⟨rfl, ⟨nd, rfl⟩⟩))
                      go_ret
                      exact ⟨by first | rfl | (simp; done) | (simp [*]; done), by repeat (first | exact Drawn0.refl _ | apply Drawn0.step)⟩
                · replace c23 := Bool.eq_false_iff.mpr c23
                  subst c23
                  have H1 : ((gimballaw01_less.f kj14 t124 a1).bind fun t133 => (if t133 = true then ((gimballaw01_less.f kj14 a1 a0).bind fun t134 => (some (!t134))) else (some (!false)))) = some r := by rw [if_neg (show ¬ (false = true) by decide)] at H; exact H
                  clear H
                  have H := H1
                  clear H1
                  replace H := Option.bind_eq_some_iff.mp H
                  obtain ⟨t133, A290, H⟩ := H
                  replace H : (if t133 = true then ((gimballaw01_less.f kj14 a1 a0).bind fun t134 => (some (!t134))) else (some (!false))) = some r := H
                  have A29 := Aside0.mk A290
                  clear A290
                  by_cases c30 : t133 = true
                  · subst c30
                    have H1 : ((gimballaw01_less.f kj14 a1 a0).bind fun t134 => (some (!t134))) = some r := by rw [if_pos rfl] at H; exact H
                    clear H
                    have H := H1
                    clear H1
                    replace H := Option.bind_eq_some_iff.mp H
                    obtain ⟨t134, A310, H⟩ := H
                    replace H : (some (!t134)) = some r := H
                    have A31 := Aside0.mk A310
                    clear A310
                    obtain rfl := Option.some.inj H
                    go_wp2_with (first | ((with_reducible refine gate_callee (f := 31) rfl ?_); refine goesL_ (some 43) rfl rfl Try.func31 (by kernel_rfl) rfl #[.int .u64 a1] rfl (by (try simp only [List.map_toArray, List.map_cons, List.map_nil]); first | done | rfl | (simp only [List.length_drop, List.length_take]; rfl)) ?_; (with_reducible refine (word_Kind.calls kj14 a1 t128 _ A20.out).mono ?_); rintro e w' ⟨rfl, ⟨nd, rfl⟩⟩; refine ⟨_, rfl, ?_⟩) | ((with_reducible refine gate_callee (f := 36) rfl ?_); refine goesL_ (some 47) rfl rfl Try.func36 (by kernel_rfl) rfl #[.int .u64 a0, .int .u64 a1] rfl (by (try simp only [List.map_toArray, List.map_cons, List.map_nil]); first | done | rfl | (simp only [List.length_drop, List.length_take]; rfl)) ?_; (with_reducible refine (gimballaw01_less.calls kj14 a0 a1 false _ A22.out).mono ?_); rintro e w' ⟨rfl, ⟨nd, rfl⟩⟩; refine ⟨_, rfl, ?_⟩) | (go_at_call 36; (with_reducible refine (gimballaw01_less.calls kj14 t124 a1 true _ A29.out).mono ?_); rintro e w' ⟨rfl, ⟨nd, rfl⟩⟩) | (go_at_call 36; (with_reducible refine (gimballaw01_less.calls kj14 a1 a0 t134 _ A31.out).mono ?_); rintro e w' ⟨rfl, ⟨nd, rfl⟩⟩))
                    go_ret
                    exact ⟨by first | rfl | (simp; done) | (simp [*]; done), by repeat (first | exact Drawn0.refl _ | apply Drawn0.step)⟩
                  · replace c30 := Bool.eq_false_iff.mpr c30
                    subst c30
                    have H1 : (some (!false)) = some r := by rw [if_neg (show ¬ (false = true) by decide)] at H; exact H
                    clear H
                    have H := H1
                    clear H1
                    obtain rfl := Option.some.inj H
                    go_wp2_with (first | ((with_reducible refine gate_callee (f := 31) rfl ?_); refine goesL_ (some 43) rfl rfl Try.func31 (by kernel_rfl) rfl #[.int .u64 a1] rfl (by (try simp only [List.map_toArray, List.map_cons, List.map_nil]); first | done | rfl | (simp only [List.length_drop, List.length_take]; rfl)) ?_; (with_reducible refine (word_Kind.calls kj14 a1 t128 _ A20.out).mono ?_); rintro e w' ⟨rfl, ⟨nd, rfl⟩⟩; refine ⟨_, rfl, ?_⟩) | ((with_reducible refine gate_callee (f := 36) rfl ?_); refine goesL_ (some 47) rfl rfl Try.func36 (by kernel_rfl) rfl #[.int .u64 a0, .int .u64 a1] rfl (by (try simp only [List.map_toArray, List.map_cons, List.map_nil]); first | done | rfl | (simp only [List.length_drop, List.length_take]; rfl)) ?_; (with_reducible refine (gimballaw01_less.calls kj14 a0 a1 false _ A22.out).mono ?_); rintro e w' ⟨rfl, ⟨nd, rfl⟩⟩; refine ⟨_, rfl, ?_⟩) | (go_at_call 36; (with_reducible refine (gimballaw01_less.calls kj14 t124 a1 false _ A29.out).mono ?_); rintro e w' ⟨rfl, ⟨nd, rfl⟩⟩))
                    go_ret
                    exact ⟨by first | rfl | (simp; done) | (simp [*]; done), by repeat (first | exact Drawn0.refl _ | apply Drawn0.step)⟩
  · replace c4 := Bool.eq_false_iff.mpr c4
    subst c4
    have H1 : (some false) = some r := by rw [if_neg (show ¬ (false = true) by decide)] at H; exact H
    clear H
    have H := H1
    clear H1
    obtain rfl := Option.some.inj H
    go_enter Try.func8, Try.ntmps8
    go_wp2_with (first | ((with_reducible refine gate_callee (f := 24) rfl ?_); refine goesL_ (some 7) rfl rfl Try.func24 (by kernel_rfl) rfl #[] rfl (by (try simp only [List.map_toArray, List.map_cons, List.map_nil]); first | done | rfl | (simp only [List.length_drop, List.length_take]; rfl)) ?_; (with_reducible refine (gimballaw01_head.calls k  false _ A3.out).mono ?_); rintro e w' ⟨rfl, ⟨nd, rfl⟩⟩; refine ⟨_, rfl, ?_⟩))
    go_ret
    exact ⟨by first | rfl | (simp; done) | (simp [*]; done), by repeat (first | exact Drawn0.refl _ | apply Drawn0.step)⟩

/-- THE ONE PURE STATEMENT of gimballaw01_WordNexts: yours. -/
def gimballaw01_WordNexts.Pure : Prop := ∀ (a0 : Int) (a1 : Int), (Lit.int .u64 a0).wf = true → (Lit.int .u64 a1).wf = true → ∃ k, gimballaw01_WordNexts.f k a0 a1 = some true
theorem gimballaw01_WordNexts.walk (P : gimballaw01_WordNexts.Pure) (a0 : Int) (a1 : Int) (w : World) (w0 : (Lit.int .u64 a0).wf = true) (w1 : (Lit.int .u64 a1).wf = true) :
    Calls Try.prog 8 #[.int .u64 a0, .int .u64 a1] w fun e w' => e = .returned (.bool true) ∧ Below w.heap.size w w' := by
  obtain ⟨k, h⟩ := P a0 a1 w0 w1
  refine (gimballaw01_WordNexts.calls k a0 a1 true w h).mono ?_
  rintro e w' ⟨rfl, hd⟩
  exact ⟨rfl, hd.below⟩

end Go.Proofs.Ytjamobbfafjdmaa.PWordNexts
