-- PRINTED BY print.sh 35421559b90ae4d0a3588c463048766b98c2df88dd9212a6774a882060cdf62d: not written by this session
import Derived.Test.YtlnpcbhbcmhbkaaPOrderTotalx0
import Derived.Test.YtlnpcbhbcmhbkaaPOrderTotalx1
namespace Go.Proofs.Ytlnpcbhbcmhbkaa.POrderTotal
open Go.RowKit Go.Proofs.YtlnpcbhbcmhbkaaW.PrintWords Go.Proofs.YtlnpcbhbcmhbkaaW.PrintLast Go.Proofs.YtlnpcbhbcmhbkaaW.PrintMore
attribute [local go_sem] max2_int min2_int max_two min_two max_three min_three max_four min_four   -- for this text's walks alone
set_option linter.unusedVariables false
set_option linter.unusedSimpArgs false

/-! ### gimballaw06_head: function 13 -/
def gimballaw06_head.f (k : Nat)  : Option (Bool) := (order_Max.f k 9223372036854775808 0).bind fun bt118 => ((order_Cmp.f k 9223372036854775808 0).bind fun bt120 => (if bt118.1 = 0 then (if bt118.2 = 0 then (if bt120.1 = 0 then (some bt120.2) else (some false)) else (some false)) else (some false)))
theorem gimballaw06_head.mono : ∀ k, LeO (gimballaw06_head.f k ) (gimballaw06_head.f (k + 1) ) := by
  intro  k
  unfold gimballaw06_head.f
  repeat' first
      | (with_reducible exact order_Cmp.mono _ _ _)
      | (with_reducible exact order_Max.mono _ _ _)
      | (with_reducible exact LeO.refl _)
      | (with_reducible exact LeO.none _)
      | (with_reducible refine LeO.ite ?_ ?_)
      | (with_reducible refine LeO.bind ?_ (fun _ => ?_))
      | exact order_Cmp.mono _ _ _
      | exact order_Max.mono _ _ _
      | exact LeO.none _
      | refine LeO.ite ?_ ?_
      | refine LeO.bind ?_ (fun _ => ?_)
set_option maxHeartbeats 8000000 in
set_option maxRecDepth 100000 in
theorem gimballaw06_head.calls (k : Nat)  (r : Bool) (w : World) (h : gimballaw06_head.f k  = some r) :
    Calls Try.prog 13 #[] w fun e w' => e = .returned (.bool r) ∧ Drawn0 w w' := by
  have H : ((order_Max.f k 9223372036854775808 0).bind fun bt118 => ((order_Cmp.f k 9223372036854775808 0).bind fun bt120 => (if bt118.1 = 0 then (if bt118.2 = 0 then (if bt120.1 = 0 then (some bt120.2) else (some false)) else (some false)) else (some false)))) = some r := h
  clear h
  replace H := Option.bind_eq_some_iff.mp H
  obtain ⟨⟨t118, t119⟩, A10, H⟩ := H
  replace H : ((order_Cmp.f k 9223372036854775808 0).bind fun bt120 => (if t118 = 0 then (if t119 = 0 then (if bt120.1 = 0 then (some bt120.2) else (some false)) else (some false)) else (some false))) = some r := H
  have A1 := Aside0.mk A10
  clear A10
  replace H := Option.bind_eq_some_iff.mp H
  obtain ⟨⟨t120, t121⟩, A20, H⟩ := H
  replace H : (if t118 = 0 then (if t119 = 0 then (if t120 = 0 then (some t121) else (some false)) else (some false)) else (some false)) = some r := H
  have A2 := Aside0.mk A20
  clear A20
  by_cases c3 : t118 = 0
  · rw [if_pos c3] at H
    have c3b0 : (t118 == 0) = true := beq_iff_eq.mpr c3
    have c3b1 : (t118 != 0) = false := bne_eq_false_iff_eq.mpr c3
    clear c3
    by_cases c4 : t119 = 0
    · rw [if_pos c4] at H
      have c4b0 : (t119 == 0) = true := beq_iff_eq.mpr c4
      have c4b1 : (t119 != 0) = false := bne_eq_false_iff_eq.mpr c4
      clear c4
      by_cases c5 : t120 = 0
      · rw [if_pos c5] at H
        have c5b0 : (t120 == 0) = true := beq_iff_eq.mpr c5
        have c5b1 : (t120 != 0) = false := bne_eq_false_iff_eq.mpr c5
        clear c5
        obtain rfl := Option.some.inj H
        go_enter Try.func13, Try.ntmps13
        go_wp2_with (first | ((with_reducible refine gate_callee (f := 25) rfl ?_); refine goesL_ (some 6) rfl rfl Try.func25 (by kernel_rfl) rfl #[.int .u64 9223372036854775808, .int .u64 0] rfl (by (try simp only [List.map_toArray, List.map_cons, List.map_nil]); first | done | rfl | (simp only [List.length_drop, List.length_take]; rfl)) ?_; (with_reducible refine (order_Max.calls k 9223372036854775808 0 t118 t119 _ A1.out).mono ?_); rintro e w' ⟨rfl, ⟨nd, rfl⟩⟩; refine ⟨_, rfl, ?_⟩) | ((with_reducible refine gate_callee (f := 18) rfl ?_); refine goesL_ (some 10) rfl rfl Try.func18 (by kernel_rfl) rfl #[.int .u64 9223372036854775808, .int .u64 0] rfl (by (try simp only [List.map_toArray, List.map_cons, List.map_nil]); first | done | rfl | (simp only [List.length_drop, List.length_take]; rfl)) ?_; (with_reducible refine (order_Cmp.calls k 9223372036854775808 0 t120 t121 _ A2.out).mono ?_); rintro e w' ⟨rfl, ⟨nd, rfl⟩⟩; refine ⟨_, rfl, ?_⟩))
        go_ret
        exact ⟨by first | rfl | (simp; done) | (simp [*]; done), by repeat (first | exact Drawn0.refl _ | apply Drawn0.step)⟩
      · rw [if_neg c5] at H
        have c5b0 : (t120 == 0) = false := beq_eq_false_iff_ne.mpr c5
        have c5b1 : (t120 != 0) = true := bne_iff_ne.mpr c5
        obtain rfl := Option.some.inj H
        go_enter Try.func13, Try.ntmps13
        go_wp2_with (first | ((with_reducible refine gate_callee (f := 25) rfl ?_); refine goesL_ (some 6) rfl rfl Try.func25 (by kernel_rfl) rfl #[.int .u64 9223372036854775808, .int .u64 0] rfl (by (try simp only [List.map_toArray, List.map_cons, List.map_nil]); first | done | rfl | (simp only [List.length_drop, List.length_take]; rfl)) ?_; (with_reducible refine (order_Max.calls k 9223372036854775808 0 t118 t119 _ A1.out).mono ?_); rintro e w' ⟨rfl, ⟨nd, rfl⟩⟩; refine ⟨_, rfl, ?_⟩) | ((with_reducible refine gate_callee (f := 18) rfl ?_); refine goesL_ (some 10) rfl rfl Try.func18 (by kernel_rfl) rfl #[.int .u64 9223372036854775808, .int .u64 0] rfl (by (try simp only [List.map_toArray, List.map_cons, List.map_nil]); first | done | rfl | (simp only [List.length_drop, List.length_take]; rfl)) ?_; (with_reducible refine (order_Cmp.calls k 9223372036854775808 0 t120 t121 _ A2.out).mono ?_); rintro e w' ⟨rfl, ⟨nd, rfl⟩⟩; refine ⟨_, rfl, ?_⟩))
        go_ret
        exact ⟨by first | rfl | (simp; done) | (simp [*]; done), by repeat (first | exact Drawn0.refl _ | apply Drawn0.step)⟩
    · rw [if_neg c4] at H
      have c4b0 : (t119 == 0) = false := beq_eq_false_iff_ne.mpr c4
      have c4b1 : (t119 != 0) = true := bne_iff_ne.mpr c4
      obtain rfl := Option.some.inj H
      go_enter Try.func13, Try.ntmps13
      go_wp2_with (first | ((with_reducible refine gate_callee (f := 25) rfl ?_); refine goesL_ (some 6) rfl rfl Try.func25 (by kernel_rfl) rfl #[.int .u64 9223372036854775808, .int .u64 0] rfl (by (try simp only [List.map_toArray, List.map_cons, List.map_nil]); first | done | rfl | (simp only [List.length_drop, List.length_take]; rfl)) ?_; (with_reducible refine (order_Max.calls k 9223372036854775808 0 t118 t119 _ A1.out).mono ?_); rintro e w' ⟨rfl, ⟨nd, rfl⟩⟩; refine ⟨_, rfl, ?_⟩) | ((with_reducible refine gate_callee (f := 18) rfl ?_); refine goesL_ (some 10) rfl rfl Try.func18 (by kernel_rfl) rfl #[.int .u64 9223372036854775808, .int .u64 0] rfl (by (try simp only [List.map_toArray, List.map_cons, List.map_nil]); first | done | rfl | (simp only [List.length_drop, List.length_take]; rfl)) ?_; (with_reducible refine (order_Cmp.calls k 9223372036854775808 0 t120 t121 _ A2.out).mono ?_); rintro e w' ⟨rfl, ⟨nd, rfl⟩⟩; refine ⟨_, rfl, ?_⟩))
      go_ret
      exact ⟨by first | rfl | (simp; done) | (simp [*]; done), by repeat (first | exact Drawn0.refl _ | apply Drawn0.step)⟩
  · rw [if_neg c3] at H
    have c3b0 : (t118 == 0) = false := beq_eq_false_iff_ne.mpr c3
    have c3b1 : (t118 != 0) = true := bne_iff_ne.mpr c3
    obtain rfl := Option.some.inj H
    go_enter Try.func13, Try.ntmps13
    go_wp2_with (first | ((with_reducible refine gate_callee (f := 25) rfl ?_); refine goesL_ (some 6) rfl rfl Try.func25 (by kernel_rfl) rfl #[.int .u64 9223372036854775808, .int .u64 0] rfl (by (try simp only [List.map_toArray, List.map_cons, List.map_nil]); first | done | rfl | (simp only [List.length_drop, List.length_take]; rfl)) ?_; (with_reducible refine (order_Max.calls k 9223372036854775808 0 t118 t119 _ A1.out).mono ?_); rintro e w' ⟨rfl, ⟨nd, rfl⟩⟩; refine ⟨_, rfl, ?_⟩) | ((with_reducible refine gate_callee (f := 18) rfl ?_); refine goesL_ (some 10) rfl rfl Try.func18 (by kernel_rfl) rfl #[.int .u64 9223372036854775808, .int .u64 0] rfl (by (try simp only [List.map_toArray, List.map_cons, List.map_nil]); first | done | rfl | (simp only [List.length_drop, List.length_take]; rfl)) ?_; (with_reducible refine (order_Cmp.calls k 9223372036854775808 0 t120 t121 _ A2.out).mono ?_); rintro e w' ⟨rfl, ⟨nd, rfl⟩⟩; refine ⟨_, rfl, ?_⟩))
    go_ret
    exact ⟨by first | rfl | (simp; done) | (simp [*]; done), by repeat (first | exact Drawn0.refl _ | apply Drawn0.step)⟩

/-! ### order_Less: function 15 -/
def order_Less.f (k : Nat) (a0 : Int) (a1 : Int) : Option (Bool) := (order_Cmp.f k a0 a1).bind fun bt122 => (if bt122.2 = true then (some (decide (bt122.1 < 0))) else (some false))
theorem order_Less.mono : ∀ a0 a1 k, LeO (order_Less.f k a0 a1) (order_Less.f (k + 1) a0 a1) := by
  intro a0 a1 k
  unfold order_Less.f
  repeat' first
      | (with_reducible exact order_Cmp.mono _ _ _)
      | (with_reducible exact LeO.refl _)
      | (with_reducible exact LeO.none _)
      | (with_reducible refine LeO.ite ?_ ?_)
      | (with_reducible refine LeO.bind ?_ (fun _ => ?_))
      | exact order_Cmp.mono _ _ _
      | exact LeO.none _
      | refine LeO.ite ?_ ?_
      | refine LeO.bind ?_ (fun _ => ?_)
set_option maxHeartbeats 8000000 in
set_option maxRecDepth 100000 in
theorem order_Less.calls (k : Nat) (a0 : Int) (a1 : Int) (r : Bool) (w : World) (h : order_Less.f k a0 a1 = some r) :
    Calls Try.prog 15 #[.int .u64 a0, .int .u64 a1] w fun e w' => e = .returned (.bool r) ∧ Drawn0 w w' := by
  have H : ((order_Cmp.f k a0 a1).bind fun bt122 => (if bt122.2 = true then (some (decide (bt122.1 < 0))) else (some false))) = some r := h
  clear h
  replace H := Option.bind_eq_some_iff.mp H
  obtain ⟨⟨t122, t123⟩, A30, H⟩ := H
  replace H : (if t123 = true then (some (decide (t122 < 0))) else (some false)) = some r := H
  have A3 := Aside0.mk A30
  clear A30
  by_cases c4 : t123 = true
  · subst c4
    have H1 : (some (decide (t122 < 0))) = some r := by rw [if_pos rfl] at H; exact H
    clear H
    have H := H1
    clear H1
    obtain rfl := Option.some.inj H
    go_enter Try.func15, Try.ntmps15
    go_wp2_with (first | ((with_reducible refine gate_callee (f := 18) rfl ?_); refine goesL_ (some 10) rfl rfl Try.func18 (by kernel_rfl) rfl #[.int .u64 a0, .int .u64 a1] rfl (by (try simp only [List.map_toArray, List.map_cons, List.map_nil]); first | done | rfl | (simp only [List.length_drop, List.length_take]; rfl)) ?_; (with_reducible refine (order_Cmp.calls k a0 a1 t122 true _ A3.out).mono ?_); rintro e w' ⟨rfl, ⟨nd, rfl⟩⟩; refine ⟨_, rfl, ?_⟩))
    go_ret
    exact ⟨by first | rfl | (simp; done) | (simp [*]; done), by repeat (first | exact Drawn0.refl _ | apply Drawn0.step)⟩
  · replace c4 := Bool.eq_false_iff.mpr c4
    subst c4
    have H1 : (some false) = some r := by rw [if_neg (show ¬ (false = true) by decide)] at H; exact H
    clear H
    have H := H1
    clear H1
    obtain rfl := Option.some.inj H
    go_enter Try.func15, Try.ntmps15
    go_wp2_with (first | ((with_reducible refine gate_callee (f := 18) rfl ?_); refine goesL_ (some 10) rfl rfl Try.func18 (by kernel_rfl) rfl #[.int .u64 a0, .int .u64 a1] rfl (by (try simp only [List.map_toArray, List.map_cons, List.map_nil]); first | done | rfl | (simp only [List.length_drop, List.length_take]; rfl)) ?_; (with_reducible refine (order_Cmp.calls k a0 a1 t122 false _ A3.out).mono ?_); rintro e w' ⟨rfl, ⟨nd, rfl⟩⟩; refine ⟨_, rfl, ?_⟩))
    go_ret
    exact ⟨by first | rfl | (simp; done) | (simp [*]; done), by repeat (first | exact Drawn0.refl _ | apply Drawn0.step)⟩

/-! ### gimballaw06_OrderTotal: function 3 -/
mutual
def gimballaw06_OrderTotal.j0 : Nat → Int → Int → Int → Bool → Option (Bool)
  | 0, _, _, _, _ => none
  | k + 1, x0, x1, x7, x42 => if x42 = true then (some false) else ((order_Less.f k x0 x1).bind fun t129 => (if t129 = true then (gimballaw06_OrderTotal.j1 k x0 x1 x7 (decide (x7 ≥ 0))) else (gimballaw06_OrderTotal.j1 k x0 x1 x7 false)))
def gimballaw06_OrderTotal.j1 : Nat → Int → Int → Int → Bool → Option (Bool)
  | 0, _, _, _, _ => none
  | k + 1, x0, x1, x7, x49 => if x49 = true then (some false) else ((word_Neg.f x0).bind fun t130 => (if t130 = true then ((word_Neg.f x1).bind fun t131 => (gimballaw06_OrderTotal.j2 k x0 x1 x7 (!t131))) else (gimballaw06_OrderTotal.j2 k x0 x1 x7 false)))
def gimballaw06_OrderTotal.j2 : Nat → Int → Int → Int → Bool → Option (Bool)
  | 0, _, _, _, _ => none
  | k + 1, x0, x1, x7, x50 => if x50 = true then (some (decide (x7 < 0))) else ((word_Neg.f x0).bind fun t132 => (if t132 = true then ((word_Neg.f x1).bind fun t133 => (gimballaw06_OrderTotal.j3 k x0 x1 x7 t133)) else (gimballaw06_OrderTotal.j3 k x0 x1 x7 false)))
def gimballaw06_OrderTotal.j3 : Nat → Int → Int → Int → Bool → Option (Bool)
  | 0, _, _, _, _ => none
  | k + 1, x0, x1, x7, x60 => if x60 = true then ((word_Abs.f x0).bind fun t134 => ((word_Abs.f x1).bind fun t135 => (some ((decide (x7 < 0)) == (decide (t134 > t135)))))) else ((word_Neg.f x0).bind fun t136 => (if t136 = true then (some (decide (x7 > 0))) else ((word_Neg.f x1).bind fun t137 => (if t137 = true then (some (decide (x7 > 0))) else (some ((decide (x7 < 0)) == (decide (x0 < x1))))))))
end
def gimballaw06_OrderTotal.f (k : Nat) (a0 : Int) (a1 : Int) (a2 : Int) : Option (Bool) := (gimballaw06_head.f k).bind fun t124 => (if t124 = true then ((order_Total.f k a0 a1).bind fun t125 => ((order_Total.f k a1 a0).bind fun t126 => (if t125 = (wrap64 (-t126)) then (if ((t125 == 0) != (a0 == a1)) = true then (gimballaw06_OrderTotal.j0 k a0 a1 t125 true) else (if t125 < 0 then ((order_Total.f k a1 a2).bind fun t127 => (if t127 < 0 then ((order_Total.f k a0 a2).bind fun t128 => (gimballaw06_OrderTotal.j0 k a0 a1 t125 (decide (t128 ≥ 0)))) else (gimballaw06_OrderTotal.j0 k a0 a1 t125 false))) else (gimballaw06_OrderTotal.j0 k a0 a1 t125 false))) else (gimballaw06_OrderTotal.j0 k a0 a1 t125 true)))) else (some false))
theorem gimballaw06_OrderTotal.mono_l : ∀ k, (∀ y0 y1 y2 y3, LeO (gimballaw06_OrderTotal.j0 k y0 y1 y2 y3) (gimballaw06_OrderTotal.j0 (k + 1) y0 y1 y2 y3)) ∧ (∀ y0 y1 y2 y3, LeO (gimballaw06_OrderTotal.j1 k y0 y1 y2 y3) (gimballaw06_OrderTotal.j1 (k + 1) y0 y1 y2 y3)) ∧ (∀ y0 y1 y2 y3, LeO (gimballaw06_OrderTotal.j2 k y0 y1 y2 y3) (gimballaw06_OrderTotal.j2 (k + 1) y0 y1 y2 y3)) ∧ (∀ y0 y1 y2 y3, LeO (gimballaw06_OrderTotal.j3 k y0 y1 y2 y3) (gimballaw06_OrderTotal.j3 (k + 1) y0 y1 y2 y3))
  | 0 => ⟨fun _ _ _ _ r h => by simp [gimballaw06_OrderTotal.j0] at h, fun _ _ _ _ r h => by simp [gimballaw06_OrderTotal.j1] at h, fun _ _ _ _ r h => by simp [gimballaw06_OrderTotal.j2] at h, fun _ _ _ _ r h => by simp [gimballaw06_OrderTotal.j3] at h⟩
  | k + 1 => by
    obtain ⟨ih0, ih1, ih2, ih3⟩ := gimballaw06_OrderTotal.mono_l k
    refine ⟨?_, ?_, ?_, ?_⟩
    · intro y0 y1 y2 y3
      unfold gimballaw06_OrderTotal.j0
      repeat' first
      | (with_reducible exact ih0 _ _ _ _)
      | (with_reducible exact ih1 _ _ _ _)
      | (with_reducible exact ih2 _ _ _ _)
      | (with_reducible exact ih3 _ _ _ _)
      | (with_reducible exact gimballaw06_head.mono _)
      | (with_reducible exact order_Less.mono _ _ _)
      | (with_reducible exact order_Total.mono _ _ _)
      | (with_reducible exact LeO.refl _)
      | (with_reducible exact LeO.none _)
      | (with_reducible refine LeO.ite ?_ ?_)
      | (with_reducible refine LeO.bind ?_ (fun _ => ?_))
      | exact ih0 _ _ _ _
      | exact ih1 _ _ _ _
      | exact ih2 _ _ _ _
      | exact ih3 _ _ _ _
      | exact gimballaw06_head.mono _
      | exact order_Less.mono _ _ _
      | exact order_Total.mono _ _ _
      | exact LeO.none _
      | refine LeO.ite ?_ ?_
      | refine LeO.bind ?_ (fun _ => ?_)
    · intro y0 y1 y2 y3
      unfold gimballaw06_OrderTotal.j1
      repeat' first
      | (with_reducible exact ih0 _ _ _ _)
      | (with_reducible exact ih1 _ _ _ _)
      | (with_reducible exact ih2 _ _ _ _)
      | (with_reducible exact ih3 _ _ _ _)
      | (with_reducible exact gimballaw06_head.mono _)
      | (with_reducible exact order_Less.mono _ _ _)
      | (with_reducible exact order_Total.mono _ _ _)
      | (with_reducible exact LeO.refl _)
      | (with_reducible exact LeO.none _)
      | (with_reducible refine LeO.ite ?_ ?_)
      | (with_reducible refine LeO.bind ?_ (fun _ => ?_))
      | exact ih0 _ _ _ _
      | exact ih1 _ _ _ _
      | exact ih2 _ _ _ _
      | exact ih3 _ _ _ _
      | exact gimballaw06_head.mono _
      | exact order_Less.mono _ _ _
      | exact order_Total.mono _ _ _
      | exact LeO.none _
      | refine LeO.ite ?_ ?_
      | refine LeO.bind ?_ (fun _ => ?_)
    · intro y0 y1 y2 y3
      unfold gimballaw06_OrderTotal.j2
      repeat' first
      | (with_reducible exact ih0 _ _ _ _)
      | (with_reducible exact ih1 _ _ _ _)
      | (with_reducible exact ih2 _ _ _ _)
      | (with_reducible exact ih3 _ _ _ _)
      | (with_reducible exact gimballaw06_head.mono _)
      | (with_reducible exact order_Less.mono _ _ _)
      | (with_reducible exact order_Total.mono _ _ _)
      | (with_reducible exact LeO.refl _)
      | (with_reducible exact LeO.none _)
      | (with_reducible refine LeO.ite ?_ ?_)
      | (with_reducible refine LeO.bind ?_ (fun _ => ?_))
      | exact ih0 _ _ _ _
      | exact ih1 _ _ _ _
      | exact ih2 _ _ _ _
      | exact ih3 _ _ _ _
      | exact gimballaw06_head.mono _
      | exact order_Less.mono _ _ _
      | exact order_Total.mono _ _ _
      | exact LeO.none _
      | refine LeO.ite ?_ ?_
      | refine LeO.bind ?_ (fun _ => ?_)
    · intro y0 y1 y2 y3
      unfold gimballaw06_OrderTotal.j3
      repeat' first
      | (with_reducible exact ih0 _ _ _ _)
      | (with_reducible exact ih1 _ _ _ _)
      | (with_reducible exact ih2 _ _ _ _)
      | (with_reducible exact ih3 _ _ _ _)
      | (with_reducible exact gimballaw06_head.mono _)
      | (with_reducible exact order_Less.mono _ _ _)
      | (with_reducible exact order_Total.mono _ _ _)
      | (with_reducible exact LeO.refl _)
      | (with_reducible exact LeO.none _)
      | (with_reducible refine LeO.ite ?_ ?_)
      | (with_reducible refine LeO.bind ?_ (fun _ => ?_))
      | exact ih0 _ _ _ _
      | exact ih1 _ _ _ _
      | exact ih2 _ _ _ _
      | exact ih3 _ _ _ _
      | exact gimballaw06_head.mono _
      | exact order_Less.mono _ _ _
      | exact order_Total.mono _ _ _
      | exact LeO.none _
      | refine LeO.ite ?_ ?_
      | refine LeO.bind ?_ (fun _ => ?_)
theorem gimballaw06_OrderTotal.mono : ∀ a0 a1 a2 k, LeO (gimballaw06_OrderTotal.f k a0 a1 a2) (gimballaw06_OrderTotal.f (k + 1) a0 a1 a2) := by
  intro a0 a1 a2 k
  obtain ⟨ih0, ih1, ih2, ih3⟩ := gimballaw06_OrderTotal.mono_l k
  unfold gimballaw06_OrderTotal.f
  repeat' first
      | (with_reducible exact ih0 _ _ _ _)
      | (with_reducible exact ih1 _ _ _ _)
      | (with_reducible exact ih2 _ _ _ _)
      | (with_reducible exact ih3 _ _ _ _)
      | (with_reducible exact gimballaw06_head.mono _)
      | (with_reducible exact order_Less.mono _ _ _)
      | (with_reducible exact order_Total.mono _ _ _)
      | (with_reducible exact LeO.refl _)
      | (with_reducible exact LeO.none _)
      | (with_reducible refine LeO.ite ?_ ?_)
      | (with_reducible refine LeO.bind ?_ (fun _ => ?_))
      | exact ih0 _ _ _ _
      | exact ih1 _ _ _ _
      | exact ih2 _ _ _ _
      | exact ih3 _ _ _ _
      | exact gimballaw06_head.mono _
      | exact order_Less.mono _ _ _
      | exact order_Total.mono _ _ _
      | exact LeO.none _
      | refine LeO.ite ?_ ?_
      | refine LeO.bind ?_ (fun _ => ?_)
set_option maxHeartbeats 8000000 in
set_option maxRecDepth 100000 in
theorem gimballaw06_OrderTotal.calls (k : Nat) (a0 : Int) (a1 : Int) (a2 : Int) (r : Bool) (w : World) (h : gimballaw06_OrderTotal.f k a0 a1 a2 = some r) :
    Calls Try.prog 3 #[.int .u64 a0, .int .u64 a1, .int .u64 a2] w fun e w' => e = .returned (.bool r) ∧ Drawn0 w w' := by
  have H : ((gimballaw06_head.f k).bind fun t124 => (if t124 = true then ((order_Total.f k a0 a1).bind fun t125 => ((order_Total.f k a1 a0).bind fun t126 => (if t125 = (wrap64 (-t126)) then (if ((t125 == 0) != (a0 == a1)) = true then (gimballaw06_OrderTotal.j0 k a0 a1 t125 true) else (if t125 < 0 then ((order_Total.f k a1 a2).bind fun t127 => (if t127 < 0 then ((order_Total.f k a0 a2).bind fun t128 => (gimballaw06_OrderTotal.j0 k a0 a1 t125 (decide (t128 ≥ 0)))) else (gimballaw06_OrderTotal.j0 k a0 a1 t125 false))) else (gimballaw06_OrderTotal.j0 k a0 a1 t125 false))) else (gimballaw06_OrderTotal.j0 k a0 a1 t125 true)))) else (some false))) = some r := h
  clear h
  replace H := Option.bind_eq_some_iff.mp H
  obtain ⟨t124, A40, H⟩ := H
  replace H : (if t124 = true then ((order_Total.f k a0 a1).bind fun t125 => ((order_Total.f k a1 a0).bind fun t126 => (if t125 = (wrap64 (-t126)) then (if ((t125 == 0) != (a0 == a1)) = true then (gimballaw06_OrderTotal.j0 k a0 a1 t125 true) else (if t125 < 0 then ((order_Total.f k a1 a2).bind fun t127 => (if t127 < 0 then ((order_Total.f k a0 a2).bind fun t128 => (gimballaw06_OrderTotal.j0 k a0 a1 t125 (decide (t128 ≥ 0)))) else (gimballaw06_OrderTotal.j0 k a0 a1 t125 false))) else (gimballaw06_OrderTotal.j0 k a0 a1 t125 false))) else (gimballaw06_OrderTotal.j0 k a0 a1 t125 true)))) else (some false)) = some r := H
  have A4 := Aside0.mk A40
  clear A40
  by_cases c5 : t124 = true
  · subst c5
    have H1 : ((order_Total.f k a0 a1).bind fun t125 => ((order_Total.f k a1 a0).bind fun t126 => (if t125 = (wrap64 (-t126)) then (if ((t125 == 0) != (a0 == a1)) = true then (gimballaw06_OrderTotal.j0 k a0 a1 t125 true) else (if t125 < 0 then ((order_Total.f k a1 a2).bind fun t127 => (if t127 < 0 then ((order_Total.f k a0 a2).bind fun t128 => (gimballaw06_OrderTotal.j0 k a0 a1 t125 (decide (t128 ≥ 0)))) else (gimballaw06_OrderTotal.j0 k a0 a1 t125 false))) else (gimballaw06_OrderTotal.j0 k a0 a1 t125 false))) else (gimballaw06_OrderTotal.j0 k a0 a1 t125 true)))) = some r := by rw [if_pos rfl] at H; exact H
    clear H
    have H := H1
    clear H1
    replace H := Option.bind_eq_some_iff.mp H
    obtain ⟨t125, A60, H⟩ := H
    replace H : ((order_Total.f k a1 a0).bind fun t126 => (if t125 = (wrap64 (-t126)) then (if ((t125 == 0) != (a0 == a1)) = true then (gimballaw06_OrderTotal.j0 k a0 a1 t125 true) else (if t125 < 0 then ((order_Total.f k a1 a2).bind fun t127 => (if t127 < 0 then ((order_Total.f k a0 a2).bind fun t128 => (gimballaw06_OrderTotal.j0 k a0 a1 t125 (decide (t128 ≥ 0)))) else (gimballaw06_OrderTotal.j0 k a0 a1 t125 false))) else (gimballaw06_OrderTotal.j0 k a0 a1 t125 false))) else (gimballaw06_OrderTotal.j0 k a0 a1 t125 true))) = some r := H
    have A6 := Aside0.mk A60
    clear A60
    have HC7 := Aside0.mk H
    clear H
    go_enter Try.func3, Try.ntmps3
    go_upto_region 4 with (first | ((with_reducible refine gate_callee (f := 13) rfl ?_); refine goesL_ (some 8) rfl rfl Try.func13 (by kernel_rfl) rfl #[] rfl (by (try simp only [List.map_toArray, List.map_cons, List.map_nil]); first | done | rfl | (simp only [List.length_drop, List.length_take]; rfl)) ?_; (with_reducible refine (gimballaw06_head.calls k  true _ A4.out).mono ?_); rintro e w' ⟨rfl, ⟨nd, rfl⟩⟩; refine ⟨_, rfl, ?_⟩) | ((with_reducible refine gate_callee (f := 14) rfl ?_); refine goesL_ (some 12) rfl rfl Try.func14 (by kernel_rfl) rfl #[.int .u64 a0, .int .u64 a1] rfl (by (try simp only [List.map_toArray, List.map_cons, List.map_nil]); first | done | rfl | (simp only [List.length_drop, List.length_take]; rfl)) ?_; (with_reducible refine (order_Total.calls k a0 a1 t125 _ A6.out).mono ?_); rintro e w' ⟨rfl, ⟨nd, rfl⟩⟩; refine ⟨_, rfl, ?_⟩))
    (try simp only [Act.put, List.setIfInBounds_toArray, List.set_cons_zero, List.set_cons_succ])
    go_cut [42] (fun v42 wc => ∃ (kq : Nat) (x42_6 : Bool), v42 = .bool x42_6 ∧ Aside0 (gimballaw06_OrderTotal.j0 kq a0 a1 t125 x42_6 = some r) ∧ Aside0 (kq ≤ k) ∧ Drawn0 w wc)
    case first =>
      have H := HC7.out
      clear HC7
      replace H := Option.bind_eq_some_iff.mp H
      obtain ⟨t126, A80, H⟩ := H
      replace H : (if t125 = (wrap64 (-t126)) then (if ((t125 == 0) != (a0 == a1)) = true then (gimballaw06_OrderTotal.j0 k a0 a1 t125 true) else (if t125 < 0 then ((order_Total.f k a1 a2).bind fun t127 => (if t127 < 0 then ((order_Total.f k a0 a2).bind fun t128 => (gimballaw06_OrderTotal.j0 k a0 a1 t125 (decide (t128 ≥ 0)))) else (gimballaw06_OrderTotal.j0 k a0 a1 t125 false))) else (gimballaw06_OrderTotal.j0 k a0 a1 t125 false))) else (gimballaw06_OrderTotal.j0 k a0 a1 t125 true)) = some r := H
      have A8 := Aside0.mk A80
      clear A80
      by_cases c9 : t125 = (wrap64 (-t126))
      · rw [if_pos c9] at H
        have c9b0 : (t125 == (wrap64 (-t126))) = true := beq_iff_eq.mpr c9
        have c9b1 : (t125 != (wrap64 (-t126))) = false := bne_eq_false_iff_eq.mpr c9
        clear c9
        (first | rw [c9b0] | (simp only [i64_w, i32_w]; rw [c9b0]) | skip)
        by_cases c10 : ((t125 == 0) != (a0 == a1)) = true
        · rw [if_pos c10] at H
          have c10b0 : ((t125 == 0) != (a0 == a1)) = true := c10
          (try (have c10b1 : decide ((t125 == 0) = (a0 == a1)) = false := by simpa using c10))
          (try (have c10b2 : ((t125 == 0) == (a0 == a1)) = false := by simpa using c10))
          (try (have c10b3 : ¬ ((t125 == 0) = (a0 == a1)) := by simpa using c10))
          clear c10
          have H' := Aside0.mk H
          clear H
          go_wp2_with (first | ((with_reducible refine gate_callee (f := 14) rfl ?_); refine goesL_ (some 16) rfl rfl Try.func14 (by kernel_rfl) rfl #[.int .u64 a1, .int .u64 a0] rfl (by (try simp only [List.map_toArray, List.map_cons, List.map_nil]); first | done | rfl | (simp only [List.length_drop, List.length_take]; rfl)) ?_; (with_reducible refine (order_Total.calls k a1 a0 t126 _ A8.out).mono ?_); rintro e w' ⟨rfl, ⟨nd, rfl⟩⟩; refine ⟨_, rfl, ?_⟩))
          go_meet
          case rel => exact ⟨_, (true), (by first | rfl | (simp; done) | (simp [*]; done)), H', ⟨by first | omega | exact Nat.le_refl _⟩, by repeat (first | exact Drawn0.refl _ | apply Drawn0.step)⟩
        · rw [if_neg c10] at H
          have c10b0 : ((t125 == 0) != (a0 == a1)) = false := by simpa using c10
          (try (have c10b1 : decide ((t125 == 0) = (a0 == a1)) = true := by simpa using c10))
          (try (have c10b2 : ((t125 == 0) == (a0 == a1)) = true := by simpa using c10))
          clear c10
          by_cases c11 : t125 < 0
          · rw [if_pos c11] at H
            have c11b0 : decide (t125 < 0) = true := decide_eq_true c11
            clear c11
            replace H := Option.bind_eq_some_iff.mp H
            obtain ⟨t127, A120, H⟩ := H
            replace H : (if t127 < 0 then ((order_Total.f k a0 a2).bind fun t128 => (gimballaw06_OrderTotal.j0 k a0 a1 t125 (decide (t128 ≥ 0)))) else (gimballaw06_OrderTotal.j0 k a0 a1 t125 false)) = some r := H
            have A12 := Aside0.mk A120
            clear A120
            by_cases c13 : t127 < 0
            · rw [if_pos c13] at H
              have c13b0 : decide (t127 < 0) = true := decide_eq_true c13
              clear c13
              replace H := Option.bind_eq_some_iff.mp H
              obtain ⟨t128, A140, H⟩ := H
              replace H : (gimballaw06_OrderTotal.j0 k a0 a1 t125 (decide (t128 ≥ 0))) = some r := H
              have A14 := Aside0.mk A140
              clear A140
              have H' := Aside0.mk H
              clear H
              go_wp2_with (first | ((with_reducible refine gate_callee (f := 14) rfl ?_); refine goesL_ (some 16) rfl rfl Try.func14 (by kernel_rfl) rfl #[.int .u64 a1, .int .u64 a0] rfl (by (try simp only [List.map_toArray, List.map_cons, List.map_nil]); first | done | rfl | (simp only [List.length_drop, List.length_take]; rfl)) ?_; (with_reducible refine (order_Total.calls k a1 a0 t126 _ A8.out).mono ?_); rintro e w' ⟨rfl, ⟨nd, rfl⟩⟩; refine ⟨_, rfl, ?_⟩) | (go_at_call 14; (with_reducible refine (order_Total.calls k a1 a2 t127 _ A12.out).mono ?_); rintro e w' ⟨rfl, ⟨nd, rfl⟩⟩) | (go_at_call 14; (with_reducible refine (order_Total.calls k a0 a2 t128 _ A14.out).mono ?_); rintro e w' ⟨rfl, ⟨nd, rfl⟩⟩))
              go_meet
              case rel => exact ⟨_, (decide (t128 ≥ 0)), (by first | rfl | (simp; done) | (simp [*]; done)), H', ⟨by first | omega | exact Nat.le_refl _⟩, by repeat (first | exact Drawn0.refl _ | apply Drawn0.step)⟩
            · rw [if_neg c13] at H
              have c13b0 : decide (t127 < 0) = false := decide_eq_false c13
              clear c13
              have H' := Aside0.mk H
              clear H
              go_wp2_with (first | ((with_reducible refine gate_callee (f := 14) rfl ?_); refine goesL_ (some 16) rfl rfl Try.func14 (by kernel_rfl) rfl #[.int .u64 a1, .int .u64 a0] rfl (by (try simp only [List.map_toArray, List.map_cons, List.map_nil]); first | done | rfl | (simp only [List.length_drop, List.length_take]; rfl)) ?_; (with_reducible refine (order_Total.calls k a1 a0 t126 _ A8.out).mono ?_); rintro e w' ⟨rfl, ⟨nd, rfl⟩⟩; refine ⟨_, rfl, ?_⟩) | (go_at_call 14; (with_reducible refine (order_Total.calls k a1 a2 t127 _ A12.out).mono ?_); rintro e w' ⟨rfl, ⟨nd, rfl⟩⟩))
              go_meet
              case rel => exact ⟨_, (false), (by first | rfl | (simp; done) | (simp [*]; done)), H', ⟨by first | omega | exact Nat.le_refl _⟩, by repeat (first | exact Drawn0.refl _ | apply Drawn0.step)⟩
          · rw [if_neg c11] at H
            have c11b0 : decide (t125 < 0) = false := decide_eq_false c11
            clear c11
            have H' := Aside0.mk H
            clear H
            go_wp2_with (first | ((with_reducible refine gate_callee (f := 14) rfl ?_); refine goesL_ (some 16) rfl rfl Try.func14 (by kernel_rfl) rfl #[.int .u64 a1, .int .u64 a0] rfl (by (try simp only [List.map_toArray, List.map_cons, List.map_nil]); first | done | rfl | (simp only [List.length_drop, List.length_take]; rfl)) ?_; (with_reducible refine (order_Total.calls k a1 a0 t126 _ A8.out).mono ?_); rintro e w' ⟨rfl, ⟨nd, rfl⟩⟩; refine ⟨_, rfl, ?_⟩))
            go_meet
            case rel => exact ⟨_, (false), (by first | rfl | (simp; done) | (simp [*]; done)), H', ⟨by first | omega | exact Nat.le_refl _⟩, by repeat (first | exact Drawn0.refl _ | apply Drawn0.step)⟩
      · rw [if_neg c9] at H
        have c9b0 : (t125 == (wrap64 (-t126))) = false := beq_eq_false_iff_ne.mpr c9
        have c9b1 : (t125 != (wrap64 (-t126))) = true := bne_iff_ne.mpr c9
        (first | rw [c9b0] | (simp only [i64_w, i32_w]; rw [c9b0]) | skip)
        have H' := Aside0.mk H
        clear H
        go_wp2_with (first | ((with_reducible refine gate_callee (f := 14) rfl ?_); refine goesL_ (some 16) rfl rfl Try.func14 (by kernel_rfl) rfl #[.int .u64 a1, .int .u64 a0] rfl (by (try simp only [List.map_toArray, List.map_cons, List.map_nil]); first | done | rfl | (simp only [List.length_drop, List.length_take]; rfl)) ?_; (with_reducible refine (order_Total.calls k a1 a0 t126 _ A8.out).mono ?_); rintro e w' ⟨rfl, ⟨nd, rfl⟩⟩; refine ⟨_, rfl, ?_⟩))
        go_meet
        case rel => exact ⟨_, (true), (by first | rfl | (simp; done) | (simp [*]; done)), H', ⟨by first | omega | exact Nat.le_refl _⟩, by repeat (first | exact Drawn0.refl _ | apply Drawn0.step)⟩
    case rest =>
      clear HC7
      try clear c1
      try clear p2
      try clear c3
      try clear c5
      try clear p6
      try clear c9
      try clear c9b0
      try clear c9b1
      try clear c10
      try clear c10b0
      try clear c10b1
      try clear c10b2
      try clear c11
      try clear c11b0
      try clear c13
      try clear c13b0
      try clear c14
      obtain ⟨kq, x42_6, rfl, HA, HJ6, ⟨mc6, rfl⟩⟩ := hcut
      cases kq with
      | zero => exact absurd HA.out (by simp [gimballaw06_OrderTotal.j0])
      | succ kj6 =>
        have H := HA.out
        clear HA
        simp only [gimballaw06_OrderTotal.j0] at H
        by_cases c15 : x42_6 = true
        · subst c15
          have H1 : (some false) = some r := by rw [if_pos rfl] at H; exact H
          clear H
          have H := H1
          clear H1
          obtain rfl := Option.some.inj H
          go_wp2
          go_ret
          exact ⟨by first | rfl | (simp; done) | (simp [*]; done), by repeat (first | exact Drawn0.refl _ | apply Drawn0.step)⟩
        · replace c15 := Bool.eq_false_iff.mpr c15
          subst c15
          have H1 : ((order_Less.f kj6 a0 a1).bind fun t129 => (if t129 = true then (gimballaw06_OrderTotal.j1 kj6 a0 a1 t125 (decide (t125 ≥ 0))) else (gimballaw06_OrderTotal.j1 kj6 a0 a1 t125 false))) = some r := by rw [if_neg (show ¬ (false = true) by decide)] at H; exact H
          clear H
          have H := H1
          clear H1
          have HC16 := Aside0.mk H
          clear H
          go_upto_region 6 with (fail)
          go_cut [49] (fun v49 wc => ∃ (kq : Nat) (x49_15 : Bool), v49 = .bool x49_15 ∧ Aside0 (gimballaw06_OrderTotal.j1 kq a0 a1 t125 x49_15 = some r) ∧ Aside0 (kq ≤ kj6) ∧ Drawn0 w wc)
          case first =>
            have H := HC16.out
            clear HC16
            replace H := Option.bind_eq_some_iff.mp H
            obtain ⟨t129, A170, H⟩ := H
            replace H : (if t129 = true then (gimballaw06_OrderTotal.j1 kj6 a0 a1 t125 (decide (t125 ≥ 0))) else (gimballaw06_OrderTotal.j1 kj6 a0 a1 t125 false)) = some r := H
            have A17 := Aside0.mk A170
            clear A170
            by_cases c18 : t129 = true
            · subst c18
              have H1 : (gimballaw06_OrderTotal.j1 kj6 a0 a1 t125 (decide (t125 ≥ 0))) = some r := by rw [if_pos rfl] at H; exact H
              clear H
              have H := H1
              clear H1
              have H' := Aside0.mk H
              clear H
              go_wp2_with (first | ((with_reducible refine gate_callee (f := 15) rfl ?_); refine goesL_ (some 45) rfl rfl Try.func15 (by kernel_rfl) rfl #[.int .u64 a0, .int .u64 a1] rfl (by (try simp only [List.map_toArray, List.map_cons, List.map_nil]); first | done | rfl | (simp only [List.length_drop, List.length_take]; rfl)) ?_; (with_reducible refine (order_Less.calls kj6 a0 a1 true _ A17.out).mono ?_); rintro e w' ⟨rfl, ⟨nd, rfl⟩⟩; refine ⟨_, rfl, ?_⟩))
              go_meet
              case rel => exact ⟨_, (decide (t125 ≥ 0)), (by first | rfl | (simp; done) | (simp [*]; done)), H', ⟨by have := HJ6.out; first | omega | exact Nat.le_refl _⟩, by repeat (first | exact Drawn0.refl _ | apply Drawn0.step)⟩
            · replace c18 := Bool.eq_false_iff.mpr c18
              subst c18
              have H1 : (gimballaw06_OrderTotal.j1 kj6 a0 a1 t125 false) = some r := by rw [if_neg (show ¬ (false = true) by decide)] at H; exact H
              clear H
              have H := H1
              clear H1
              have H' := Aside0.mk H
              clear H
              go_wp2_with (first | ((with_reducible refine gate_callee (f := 15) rfl ?_); refine goesL_ (some 45) rfl rfl Try.func15 (by kernel_rfl) rfl #[.int .u64 a0, .int .u64 a1] rfl (by (try simp only [List.map_toArray, List.map_cons, List.map_nil]); first | done | rfl | (simp only [List.length_drop, List.length_take]; rfl)) ?_; (with_reducible refine (order_Less.calls kj6 a0 a1 false _ A17.out).mono ?_); rintro e w' ⟨rfl, ⟨nd, rfl⟩⟩; refine ⟨_, rfl, ?_⟩))
              go_meet
              case rel => exact ⟨_, (false), (by first | rfl | (simp; done) | (simp [*]; done)), H', ⟨by have := HJ6.out; first | omega | exact Nat.le_refl _⟩, by repeat (first | exact Drawn0.refl _ | apply Drawn0.step)⟩
          case rest =>
            clear HC16
            try clear c1
            try clear p2
            try clear c3
            try clear c5
            try clear c6
            try clear p6
            try clear c9
            try clear c9b0
            try clear c9b1
            try clear c10
            try clear c10b0
            try clear c10b1
            try clear c10b2
            try clear c11
            try clear c11b0
            try clear c13
            try clear c13b0
            try clear c14
            try clear c15
            try clear c18
            try clear p2
            try clear p6
            obtain ⟨kq, x49_15, rfl, HA, HJ15, ⟨mc15, rfl⟩⟩ := hcut
            cases kq with
            | zero => exact absurd HA.out (by simp [gimballaw06_OrderTotal.j1])
            | succ kj15 =>
              have H := HA.out
              clear HA
              simp only [gimballaw06_OrderTotal.j1] at H
              by_cases c19 : x49_15 = true
              · subst c19
                have H1 : (some false) = some r := by rw [if_pos rfl] at H; exact H
                clear H
                have H := H1
                clear H1
                obtain rfl := Option.some.inj H
                go_wp2
                go_ret
                exact ⟨by first | rfl | (simp; done) | (simp [*]; done), by repeat (first | exact Drawn0.refl _ | apply Drawn0.step)⟩
              · replace c19 := Bool.eq_false_iff.mpr c19
                subst c19
                have H1 : ((word_Neg.f a0).bind fun t130 => (if t130 = true then ((word_Neg.f a1).bind fun t131 => (gimballaw06_OrderTotal.j2 kj15 a0 a1 t125 (!t131))) else (gimballaw06_OrderTotal.j2 kj15 a0 a1 t125 false))) = some r := by rw [if_neg (show ¬ (false = true) by decide)] at H; exact H
                clear H
                have H := H1
                clear H1
                have HC20 := Aside0.mk H
                clear H
                go_upto_region 8 with (fail)
                go_cut [50] (fun v50 wc => ∃ (kq : Nat) (x50_19 : Bool), v50 = .bool x50_19 ∧ Aside0 (gimballaw06_OrderTotal.j2 kq a0 a1 t125 x50_19 = some r) ∧ Aside0 (kq ≤ kj15) ∧ Drawn0 w wc)
                case first =>
                  have H := HC20.out
                  clear HC20
                  replace H := Option.bind_eq_some_iff.mp H
                  obtain ⟨t130, A210, H⟩ := H
                  replace H : (if t130 = true then ((word_Neg.f a1).bind fun t131 => (gimballaw06_OrderTotal.j2 kj15 a0 a1 t125 (!t131))) else (gimballaw06_OrderTotal.j2 kj15 a0 a1 t125 false)) = some r := H
                  have A21 := Aside0.mk A210
                  clear A210
                  by_cases c22 : t130 = true
                  · subst c22
                    have H1 : ((word_Neg.f a1).bind fun t131 => (gimballaw06_OrderTotal.j2 kj15 a0 a1 t125 (!t131))) = some r := by rw [if_pos rfl] at H; exact H
                    clear H
                    have H := H1
                    clear H1
                    replace H := Option.bind_eq_some_iff.mp H
                    obtain ⟨t131, A230, H⟩ := H
                    replace H : (gimballaw06_OrderTotal.j2 kj15 a0 a1 t125 (!t131)) = some r := H
                    have A23 := Aside0.mk A230
                    clear A230
                    have H' := Aside0.mk H
                    clear H
                    go_wp2_with (first | ((with_reducible refine gate_callee (f := 16) rfl ?_); refine goesL_ (some 52) rfl rfl Try.func16 (by kernel_rfl) rfl #[.int .u64 a0] rfl (by (try simp only [List.map_toArray, List.map_cons, List.map_nil]); first | done | rfl | (simp only [List.length_drop, List.length_take]; rfl)) ?_; (with_reducible refine (word_Neg.calls a0 true _ A21.out).mono ?_); rintro e w' ⟨rfl, ⟨nd, rfl⟩⟩; refine ⟨_, rfl, ?_⟩) | (go_at_call 16; (with_reducible refine (word_Neg.calls a1 t131 _ A23.out).mono ?_); rintro e w' ⟨rfl, ⟨nd, rfl⟩⟩))
                    go_meet
                    case rel => exact ⟨_, (!t131), (by first | rfl | (simp; done) | (simp [*]; done)), H', ⟨by have := HJ6.out; have := HJ15.out; first | omega | exact Nat.le_refl _⟩, by repeat (first | exact Drawn0.refl _ | apply Drawn0.step)⟩
                  · replace c22 := Bool.eq_false_iff.mpr c22
                    subst c22
                    have H1 : (gimballaw06_OrderTotal.j2 kj15 a0 a1 t125 false) = some r := by rw [if_neg (show ¬ (false = true) by decide)] at H; exact H
                    clear H
                    have H := H1
                    clear H1
                    have H' := Aside0.mk H
                    clear H
                    go_wp2_with (first | ((with_reducible refine gate_callee (f := 16) rfl ?_); refine goesL_ (some 52) rfl rfl Try.func16 (by kernel_rfl) rfl #[.int .u64 a0] rfl (by (try simp only [List.map_toArray, List.map_cons, List.map_nil]); first | done | rfl | (simp only [List.length_drop, List.length_take]; rfl)) ?_; (with_reducible refine (word_Neg.calls a0 false _ A21.out).mono ?_); rintro e w' ⟨rfl, ⟨nd, rfl⟩⟩; refine ⟨_, rfl, ?_⟩))
                    go_meet
                    case rel => exact ⟨_, (false), (by first | rfl | (simp; done) | (simp [*]; done)), H', ⟨by have := HJ6.out; have := HJ15.out; first | omega | exact Nat.le_refl _⟩, by repeat (first | exact Drawn0.refl _ | apply Drawn0.step)⟩
                case rest =>
                  clear HC20
                  try clear c1
                  try clear c2
                  try clear p2
                  try clear c3
                  try clear c5
                  try clear c6
                  try clear p6
                  try clear c9
                  try clear c9b0
                  try clear c9b1
                  try clear c10
                  try clear c10b0
                  try clear c10b1
                  try clear c10b2
                  try clear c11
                  try clear c11b0
                  try clear c13
                  try clear c13b0
                  try clear c14
                  try clear c15
                  try clear c16
                  try clear c18
                  try clear c19
                  try clear c22
                  try clear p2
                  try clear p6
                  obtain ⟨kq, x50_19, rfl, HA, HJ19, ⟨mc19, rfl⟩⟩ := hcut
                  cases kq with
                  | zero => exact absurd HA.out (by simp [gimballaw06_OrderTotal.j2])
                  | succ kj19 =>
                    have H := HA.out
                    clear HA
                    simp only [gimballaw06_OrderTotal.j2] at H
                    by_cases c24 : x50_19 = true
                    · subst c24
                      have H1 : (some (decide (t125 < 0))) = some r := by rw [if_pos rfl] at H; exact H
                      clear H
                      have H := H1
                      clear H1
                      obtain rfl := Option.some.inj H
                      go_wp2
                      go_ret
                      exact ⟨by first | rfl | (simp; done) | (simp [*]; done), by repeat (first | exact Drawn0.refl _ | apply Drawn0.step)⟩
                    · replace c24 := Bool.eq_false_iff.mpr c24
                      subst c24
                      have H1 : ((word_Neg.f a0).bind fun t132 => (if t132 = true then ((word_Neg.f a1).bind fun t133 => (gimballaw06_OrderTotal.j3 kj19 a0 a1 t125 t133)) else (gimballaw06_OrderTotal.j3 kj19 a0 a1 t125 false))) = some r := by rw [if_neg (show ¬ (false = true) by decide)] at H; exact H
                      clear H
                      have H := H1
                      clear H1
                      have HC25 := Aside0.mk H
                      clear H
                      go_upto_region 10 with (fail)
                      go_cut [60] (fun v60 wc => ∃ (kq : Nat) (x60_24 : Bool), v60 = .bool x60_24 ∧ Aside0 (gimballaw06_OrderTotal.j3 kq a0 a1 t125 x60_24 = some r) ∧ Aside0 (kq ≤ kj19) ∧ Drawn0 w wc)
                      case first =>
                        have H := HC25.out
                        clear HC25
                        replace H := Option.bind_eq_some_iff.mp H
                        obtain ⟨t132, A260, H⟩ := H
                        replace H : (if t132 = true then ((word_Neg.f a1).bind fun t133 => (gimballaw06_OrderTotal.j3 kj19 a0 a1 t125 t133)) else (gimballaw06_OrderTotal.j3 kj19 a0 a1 t125 false)) = some r := H
                        have A26 := Aside0.mk A260
                        clear A260
                        by_cases c27 : t132 = true
                        · subst c27
                          have H1 : ((word_Neg.f a1).bind fun t133 => (gimballaw06_OrderTotal.j3 kj19 a0 a1 t125 t133)) = some r := by rw [if_pos rfl] at H; exact H
                          clear H
                          have H := H1
                          clear H1
                          replace H := Option.bind_eq_some_iff.mp H
                          obtain ⟨t133, A280, H⟩ := H
                          replace H : (gimballaw06_OrderTotal.j3 kj19 a0 a1 t125 t133) = some r := H
                          have A28 := Aside0.mk A280
                          clear A280
                          have H' := Aside0.mk H
                          clear H
                          go_wp2_with (first | ((with_reducible refine gate_callee (f := 16) rfl ?_); refine goesL_ (some 62) rfl rfl Try.func16 (by kernel_rfl) rfl #[.int .u64 a0] rfl (by (try simp only [List.map_toArray, List.map_cons, List.map_nil]); first | done | rfl | (simp only [List.length_drop, List.length_take]; rfl)) ?_; (with_reducible refine (word_Neg.calls a0 true _ A26.out).mono ?_); rintro e w' ⟨rfl, ⟨nd, rfl⟩⟩; refine ⟨_, rfl, ?_⟩) | (go_at_call 16; (with_reducible refine (word_Neg.calls a1 t133 _ A28.out).mono ?_); rintro e w' ⟨rfl, ⟨nd, rfl⟩⟩))
                          go_meet
                          case rel => exact ⟨_, (t133), (by first | rfl | (simp; done) | (simp [*]; done)), H', ⟨by have := HJ6.out; have := HJ15.out; have := HJ19.out; first | omega | exact Nat.le_refl _⟩, by repeat (first | exact Drawn0.refl _ | apply Drawn0.step)⟩
                        · replace c27 := Bool.eq_false_iff.mpr c27
                          subst c27
                          have H1 : (gimballaw06_OrderTotal.j3 kj19 a0 a1 t125 false) = some r := by rw [if_neg (show ¬ (false = true) by decide)] at H; exact H
                          clear H
                          have H := H1
                          clear H1
                          have H' := Aside0.mk H
                          clear H
                          go_wp2_with (first | ((with_reducible refine gate_callee (f := 16) rfl ?_); refine goesL_ (some 62) rfl rfl Try.func16 (by kernel_rfl) rfl #[.int .u64 a0] rfl (by (try simp only [List.map_toArray, List.map_cons, List.map_nil]); first | done | rfl | (simp only [List.length_drop, List.length_take]; rfl)) ?_; (with_reducible refine (word_Neg.calls a0 false _ A26.out).mono ?_); rintro e w' ⟨rfl, ⟨nd, rfl⟩⟩; refine ⟨_, rfl, ?_⟩))
                          go_meet
                          case rel => exact ⟨_, (false), (by first | rfl | (simp; done) | (simp [*]; done)), H', ⟨by have := HJ6.out; have := HJ15.out; have := HJ19.out; first | omega | exact Nat.le_refl _⟩, by repeat (first | exact Drawn0.refl _ | apply Drawn0.step)⟩
                      case rest =>
                        clear HC25
                        try clear c1
                        try clear c2
                        try clear p2
                        try clear c3
                        try clear c5
                        try clear c6
                        try clear p6
                        try clear c9
                        try clear c9b0
                        try clear c9b1
                        try clear c10
                        try clear c10b0
                        try clear c10b1
                        try clear c10b2
                        try clear c11
                        try clear c11b0
                        try clear c13
                        try clear c13b0
                        try clear c14
                        try clear c15
                        try clear c16
                        try clear c18
                        try clear c19
                        try clear c22
                        try clear c24
                        try clear c27
                        try clear p2
                        try clear p6
                        obtain ⟨kq, x60_24, rfl, HA, HJ24, ⟨mc24, rfl⟩⟩ := hcut
                        cases kq with
                        | zero => exact absurd HA.out (by simp [gimballaw06_OrderTotal.j3])
                        | succ kj24 =>
                          have H := HA.out
                          clear HA
                          simp only [gimballaw06_OrderTotal.j3] at H
                          by_cases c29 : x60_24 = true
                          · subst c29
                            have H1 : ((word_Abs.f a0).bind fun t134 => ((word_Abs.f a1).bind fun t135 => (some ((decide (t125 < 0)) == (decide (t134 > t135)))))) = some r := by rw [if_pos rfl] at H; exact H
                            clear H
                            have H := H1
                            clear H1
                            replace H := Option.bind_eq_some_iff.mp H
                            obtain ⟨t134, A300, H⟩ := H
                            replace H : ((word_Abs.f a1).bind fun t135 => (some ((decide (t125 < 0)) == (decide (t134 > t135))))) = some r := H
                            have A30 := Aside0.mk A300
                            clear A300
                            replace H := Option.bind_eq_some_iff.mp H
                            obtain ⟨t135, A310, H⟩ := H
                            replace H : (some ((decide (t125 < 0)) == (decide (t134 > t135)))) = some r := H
                            have A31 := Aside0.mk A310
                            clear A310
                            obtain rfl := Option.some.inj H
                            go_wp2_with (first | ((with_reducible refine gate_callee (f := 17) rfl ?_); refine goesL_ (some 70) rfl rfl Try.func17 (by kernel_rfl) rfl #[.int .u64 a0] rfl (by (try simp only [List.map_toArray, List.map_cons, List.map_nil]); first | done | rfl | (simp only [List.length_drop, List.length_take]; rfl)) ?_; (with_reducible refine (word_Abs.calls a0 t134 _ A30.out).mono ?_); rintro e w' ⟨rfl, ⟨nd, rfl⟩⟩; refine ⟨_, rfl, ?_⟩) | ((with_reducible refine gate_callee (f := 17) rfl ?_); refine goesL_ (some 72) rfl rfl Try.func17 (by kernel_rfl) rfl #[.int .u64 a1] rfl (by (try simp only [List.map_toArray, List.map_cons, List.map_nil]); first | done | rfl | (simp only [List.length_drop, List.length_take]; rfl)) ?_; (with_reducible refine (word_Abs.calls a1 t135 _ A31.out).mono ?_); rintro e w' ⟨rfl, ⟨nd, rfl⟩⟩; refine ⟨_, rfl, ?_⟩))
                            go_ret
                            exact ⟨by first | rfl | (simp; done) | (simp [*]; done), by repeat (first | exact Drawn0.refl _ | apply Drawn0.step)⟩
                          · replace c29 := Bool.eq_false_iff.mpr c29
                            subst c29
                            have H1 : ((word_Neg.f a0).bind fun t136 => (if t136 = true then (some (decide (t125 > 0))) else ((word_Neg.f a1).bind fun t137 => (if t137 = true then (some (decide (t125 > 0))) else (some ((decide (t125 < 0)) == (decide (a0 < a1)))))))) = some r := by rw [if_neg (show ¬ (false = true) by decide)] at H; exact H
                            clear H
                            have H := H1
                            clear H1
                            replace H := Option.bind_eq_some_iff.mp H
                            obtain ⟨t136, A320, H⟩ := H
                            replace H : (if t136 = true then (some (decide (t125 > 0))) else ((word_Neg.f a1).bind fun t137 => (if t137 = true then (some (decide (t125 > 0))) else (some ((decide (t125 < 0)) == (decide (a0 < a1))))))) = some r := H
                            have A32 := Aside0.mk A320
                            clear A320
                            by_cases c33 : t136 = true
                            · subst c33
                              have H1 : (some (decide (t125 > 0))) = some r := by rw [if_pos rfl] at H; exact H
                              clear H
                              have H := H1
                              clear H1
                              obtain rfl := Option.some.inj H
                              go_wp2_with (first | ((with_reducible refine gate_callee (f := 16) rfl ?_); refine goesL_ (some 77) rfl rfl Try.func16 (by kernel_rfl) rfl #[.int .u64 a0] rfl (by (try simp only [List.map_toArray, List.map_cons, List.map_nil]); first | done | rfl | (simp only [List.length_drop, List.length_take]; rfl)) ?_; (with_reducible refine (word_Neg.calls a0 true _ A32.out).mono ?_); rintro e w' ⟨rfl, ⟨nd, rfl⟩⟩; refine ⟨_, rfl, ?_⟩))
                              go_ret
                              exact ⟨by first | rfl | (simp; done) | (simp [*]; done), by repeat (first | exact Drawn0.refl _ | apply Drawn0.step)⟩
                            · replace c33 := Bool.eq_false_iff.mpr c33
                              subst c33
                              have H1 : ((word_Neg.f a1).bind fun t137 => (if t137 = true then (some (decide (t125 > 0))) else (some ((decide (t125 < 0)) == (decide (a0 < a1)))))) = some r := by rw [if_neg (show ¬ (false = true) by decide)] at H; exact H
                              clear H
                              have H := H1
                              clear H1
                              replace H := Option.bind_eq_some_iff.mp H
                              obtain ⟨t137, A340, H⟩ := H
                              replace H : (if t137 = true then (some (decide (t125 > 0))) else (some ((decide (t125 < 0)) == (decide (a0 < a1))))) = some r := H
                              have A34 := Aside0.mk A340
                              clear A340
                              by_cases c35 : t137 = true
                              · subst c35
                                have H1 : (some (decide (t125 > 0))) = some r := by rw [if_pos rfl] at H; exact H
                                clear H
                                have H := H1
                                clear H1
                                obtain rfl := Option.some.inj H
                                go_wp2_with (first | ((with_reducible refine gate_callee (f := 16) rfl ?_); refine goesL_ (some 77) rfl rfl Try.func16 (by kernel_rfl) rfl #[.int .u64 a0] rfl (by (try simp only [List.map_toArray, List.map_cons, List.map_nil]); first | done | rfl | (simp only [List.length_drop, List.length_take]; rfl)) ?_; (with_reducible refine (word_Neg.calls a0 false _ A32.out).mono ?_); rintro e w' ⟨rfl, ⟨nd, rfl⟩⟩; refine ⟨_, rfl, ?_⟩) | (go_at_call 16; (with_reducible refine (word_Neg.calls a1 true _ A34.out).mono ?_); rintro e w' ⟨rfl, ⟨nd, rfl⟩⟩))
                                go_ret
                                exact ⟨by first | rfl | (simp; done) | (simp [*]; done), by repeat (first | exact Drawn0.refl _ | apply Drawn0.step)⟩
                              · replace c35 := Bool.eq_false_iff.mpr c35
                                subst c35
                                have H1 : (some ((decide (t125 < 0)) == (decide (a0 < a1)))) = some r := by rw [if_neg (show ¬ (false = true) by decide)] at H; exact H
                                clear H
                                have H := H1
                                clear H1
                                obtain rfl := Option.some.inj H
                                go_wp2_with (first | ((with_reducible refine gate_callee (f := 16) rfl ?_); refine goesL_ (some 77) rfl rfl Try.func16 (by kernel_rfl) rfl #[.int .u64 a0] rfl (by (try simp only [List.map_toArray, List.map_cons, List.map_nil]); first | done | rfl | (simp only [List.length_drop, List.length_take]; rfl)) ?_; (with_reducible refine (word_Neg.calls a0 false _ A32.out).mono ?_); rintro e w' ⟨rfl, ⟨nd, rfl⟩⟩; refine ⟨_, rfl, ?_⟩) | (go_at_call 16; (with_reducible refine (word_Neg.calls a1 false _ A34.out).mono ?_); rintro e w' ⟨rfl, ⟨nd, rfl⟩⟩))
                                go_ret
                                exact ⟨by first | rfl | (simp; done) | (simp [*]; done), by repeat (first | exact Drawn0.refl _ | apply Drawn0.step)⟩
  · replace c5 := Bool.eq_false_iff.mpr c5
    subst c5
    have H1 : (some false) = some r := by rw [if_neg (show ¬ (false = true) by decide)] at H; exact H
    clear H
    have H := H1
    clear H1
    obtain rfl := Option.some.inj H
    go_enter Try.func3, Try.ntmps3
    go_wp2_with (first | ((with_reducible refine gate_callee (f := 13) rfl ?_); refine goesL_ (some 8) rfl rfl Try.func13 (by kernel_rfl) rfl #[] rfl (by (try simp only [List.map_toArray, List.map_cons, List.map_nil]); first | done | rfl | (simp only [List.length_drop, List.length_take]; rfl)) ?_; (with_reducible refine (gimballaw06_head.calls k  false _ A4.out).mono ?_); rintro e w' ⟨rfl, ⟨nd, rfl⟩⟩; refine ⟨_, rfl, ?_⟩))
    go_ret
    exact ⟨by first | rfl | (simp; done) | (simp [*]; done), by repeat (first | exact Drawn0.refl _ | apply Drawn0.step)⟩

/-- THE ONE PURE STATEMENT of gimballaw06_OrderTotal: yours. -/
def gimballaw06_OrderTotal.Pure : Prop := ∀ (a0 : Int) (a1 : Int) (a2 : Int), (Lit.int .u64 a0).wf = true → (Lit.int .u64 a1).wf = true → (Lit.int .u64 a2).wf = true → ∃ k, gimballaw06_OrderTotal.f k a0 a1 a2 = some true
theorem gimballaw06_OrderTotal.walk (P : gimballaw06_OrderTotal.Pure) (a0 : Int) (a1 : Int) (a2 : Int) (w : World) (w0 : (Lit.int .u64 a0).wf = true) (w1 : (Lit.int .u64 a1).wf = true) (w2 : (Lit.int .u64 a2).wf = true) :
    Calls Try.prog 3 #[.int .u64 a0, .int .u64 a1, .int .u64 a2] w fun e w' => e = .returned (.bool true) ∧ Below w.heap.size w w' := by
  obtain ⟨k, h⟩ := P a0 a1 a2 w0 w1 w2
  refine (gimballaw06_OrderTotal.calls k a0 a1 a2 true w h).mono ?_
  rintro e w' ⟨rfl, hd⟩
  exact ⟨rfl, hd.below⟩

end Go.Proofs.Ytlnpcbhbcmhbkaa.POrderTotal
