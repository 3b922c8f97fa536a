-- PRINTED BY print.sh 35421559b90ae4d0a3588c463048766b98c2df88dd9212a6774a882060cdf62d: not written by this session
import Derived.Test.YtlnpcbhbcmhbkaaPOrderMostx0
import Derived.Test.YtlnpcbhbcmhbkaaPOrderMostx1
namespace Go.Proofs.Ytlnpcbhbcmhbkaa.POrderMost
open Go.RowKit Go.Proofs.YtlnpcbhbcmhbkaaW.PrintWords Go.Proofs.YtlnpcbhbcmhbkaaW.PrintLast Go.Proofs.YtlnpcbhbcmhbkaaW.PrintMore
attribute [local go_sem] max2_int min2_int max_two min_two max_three min_three max_four min_four   -- for this text's walks alone
set_option linter.unusedVariables false
set_option linter.unusedSimpArgs false

/-! ### gimballaw06_head: function 13 -/
def gimballaw06_head.f (k : Nat)  : Option (Bool) := (order_Max.f k 9223372036854775808 0).bind fun bt118 => ((order_Cmp.f k 9223372036854775808 0).bind fun bt120 => (if bt118.1 = 0 then (if bt118.2 = 0 then (if bt120.1 = 0 then (some bt120.2) else (some false)) else (some false)) else (some false)))
theorem gimballaw06_head.mono : ∀ k, LeO (gimballaw06_head.f k ) (gimballaw06_head.f (k + 1) ) := by
  intro  k
  unfold gimballaw06_head.f
  repeat' first
      | (with_reducible exact order_Cmp.mono _ _ _)
      | (with_reducible exact order_Max.mono _ _ _)
      | (with_reducible exact LeO.refl _)
      | (with_reducible exact LeO.none _)
      | (with_reducible refine LeO.ite ?_ ?_)
      | (with_reducible refine LeO.bind ?_ (fun _ => ?_))
      | exact order_Cmp.mono _ _ _
      | exact order_Max.mono _ _ _
      | exact LeO.none _
      | refine LeO.ite ?_ ?_
      | refine LeO.bind ?_ (fun _ => ?_)
set_option maxHeartbeats 8000000 in
set_option maxRecDepth 100000 in
theorem gimballaw06_head.calls (k : Nat)  (r : Bool) (w : World) (h : gimballaw06_head.f k  = some r) :
    Calls Try.prog 13 #[] w fun e w' => e = .returned (.bool r) ∧ Drawn0 w w' := by
  have H : ((order_Max.f k 9223372036854775808 0).bind fun bt118 => ((order_Cmp.f k 9223372036854775808 0).bind fun bt120 => (if bt118.1 = 0 then (if bt118.2 = 0 then (if bt120.1 = 0 then (some bt120.2) else (some false)) else (some false)) else (some false)))) = some r := h
  clear h
  replace H := Option.bind_eq_some_iff.mp H
  obtain ⟨⟨t118, t119⟩, A10, H⟩ := H
  replace H : ((order_Cmp.f k 9223372036854775808 0).bind fun bt120 => (if t118 = 0 then (if t119 = 0 then (if bt120.1 = 0 then (some bt120.2) else (some false)) else (some false)) else (some false))) = some r := H
  have A1 := Aside0.mk A10
  clear A10
  replace H := Option.bind_eq_some_iff.mp H
  obtain ⟨⟨t120, t121⟩, A20, H⟩ := H
  replace H : (if t118 = 0 then (if t119 = 0 then (if t120 = 0 then (some t121) else (some false)) else (some false)) else (some false)) = some r := H
  have A2 := Aside0.mk A20
  clear A20
  by_cases c3 : t118 = 0
  · rw [if_pos c3] at H
    have c3b0 : (t118 == 0) = true := beq_iff_eq.mpr c3
    have c3b1 : (t118 != 0) = false := bne_eq_false_iff_eq.mpr c3
    clear c3
    by_cases c4 : t119 = 0
    · rw [if_pos c4] at H
      have c4b0 : (t119 == 0) = true := beq_iff_eq.mpr c4
      have c4b1 : (t119 != 0) = false := bne_eq_false_iff_eq.mpr c4
      clear c4
      by_cases c5 : t120 = 0
      · rw [if_pos c5] at H
        have c5b0 : (t120 == 0) = true := beq_iff_eq.mpr c5
        have c5b1 : (t120 != 0) = false := bne_eq_false_iff_eq.mpr c5
        clear c5
        obtain rfl := Option.some.inj H
        go_enter Try.func13, Try.ntmps13
        go_wp2_with (first | ((with_reducible refine gate_callee (f := 25) rfl ?_); refine goesL_ (some 6) rfl rfl Try.func25 (by kernel_rfl) rfl #[.int .u64 9223372036854775808, .int .u64 0] rfl (by (try simp only [List.map_toArray, List.map_cons, List.map_nil]); first | done | rfl | (simp only [List.length_drop, List.length_take]; rfl)) ?_; (with_reducible refine (order_Max.calls k 9223372036854775808 0 t118 t119 _ A1.out).mono ?_); rintro e w' ⟨rfl, ⟨nd, rfl⟩⟩; refine ⟨_, rfl, ?_⟩) | ((with_reducible refine gate_callee (f := 18) rfl ?_); refine goesL_ (some 10) rfl rfl Try.func18 (by kernel_rfl) rfl #[.int .u64 9223372036854775808, .int .u64 0] rfl (by (try simp only [List.map_toArray, List.map_cons, List.map_nil]); first | done | rfl | (simp only [List.length_drop, List.length_take]; rfl)) ?_; (with_reducible refine (order_Cmp.calls k 9223372036854775808 0 t120 t121 _ A2.out).mono ?_); rintro e w' ⟨rfl, ⟨nd, rfl⟩⟩; refine ⟨_, rfl, ?_⟩))
        go_ret
        exact ⟨by first | rfl | (simp; done) | (simp [*]; done), by repeat (first | exact Drawn0.refl _ | apply Drawn0.step)⟩
      · rw [if_neg c5] at H
        have c5b0 : (t120 == 0) = false := beq_eq_false_iff_ne.mpr c5
        have c5b1 : (t120 != 0) = true := bne_iff_ne.mpr c5
        obtain rfl := Option.some.inj H
        go_enter Try.func13, Try.ntmps13
        go_wp2_with (first | ((with_reducible refine gate_callee (f := 25) rfl ?_); refine goesL_ (some 6) rfl rfl Try.func25 (by kernel_rfl) rfl #[.int .u64 9223372036854775808, .int .u64 0] rfl (by (try simp only [List.map_toArray, List.map_cons, List.map_nil]); first | done | rfl | (simp only [List.length_drop, List.length_take]; rfl)) ?_; (with_reducible refine (order_Max.calls k 9223372036854775808 0 t118 t119 _ A1.out).mono ?_); rintro e w' ⟨rfl, ⟨nd, rfl⟩⟩; refine ⟨_, rfl, ?_⟩) | ((with_reducible refine gate_callee (f := 18) rfl ?_); refine goesL_ (some 10) rfl rfl Try.func18 (by kernel_rfl) rfl #[.int .u64 9223372036854775808, .int .u64 0] rfl (by (try simp only [List.map_toArray, List.map_cons, List.map_nil]); first | done | rfl | (simp only [List.length_drop, List.length_take]; rfl)) ?_; (with_reducible refine (order_Cmp.calls k 9223372036854775808 0 t120 t121 _ A2.out).mono ?_); rintro e w' ⟨rfl, ⟨nd, rfl⟩⟩; refine ⟨_, rfl, ?_⟩))
        go_ret
        exact ⟨by first | rfl | (simp; done) | (simp [*]; done), by repeat (first | exact Drawn0.refl _ | apply Drawn0.step)⟩
    · rw [if_neg c4] at H
      have c4b0 : (t119 == 0) = false := beq_eq_false_iff_ne.mpr c4
      have c4b1 : (t119 != 0) = true := bne_iff_ne.mpr c4
      obtain rfl := Option.some.inj H
      go_enter Try.func13, Try.ntmps13
      go_wp2_with (first | ((with_reducible refine gate_callee (f := 25) rfl ?_); refine goesL_ (some 6) rfl rfl Try.func25 (by kernel_rfl) rfl #[.int .u64 9223372036854775808, .int .u64 0] rfl (by (try simp only [List.map_toArray, List.map_cons, List.map_nil]); first | done | rfl | (simp only [List.length_drop, List.length_take]; rfl)) ?_; (with_reducible refine (order_Max.calls k 9223372036854775808 0 t118 t119 _ A1.out).mono ?_); rintro e w' ⟨rfl, ⟨nd, rfl⟩⟩; refine ⟨_, rfl, ?_⟩) | ((with_reducible refine gate_callee (f := 18) rfl ?_); refine goesL_ (some 10) rfl rfl Try.func18 (by kernel_rfl) rfl #[.int .u64 9223372036854775808, .int .u64 0] rfl (by (try simp only [List.map_toArray, List.map_cons, List.map_nil]); first | done | rfl | (simp only [List.length_drop, List.length_take]; rfl)) ?_; (with_reducible refine (order_Cmp.calls k 9223372036854775808 0 t120 t121 _ A2.out).mono ?_); rintro e w' ⟨rfl, ⟨nd, rfl⟩⟩; refine ⟨_, rfl, ?_⟩))
      go_ret
      exact ⟨by first | rfl | (simp; done) | (simp [*]; done), by repeat (first | exact Drawn0.refl _ | apply Drawn0.step)⟩
  · rw [if_neg c3] at H
    have c3b0 : (t118 == 0) = false := beq_eq_false_iff_ne.mpr c3
    have c3b1 : (t118 != 0) = true := bne_iff_ne.mpr c3
    obtain rfl := Option.some.inj H
    go_enter Try.func13, Try.ntmps13
    go_wp2_with (first | ((with_reducible refine gate_callee (f := 25) rfl ?_); refine goesL_ (some 6) rfl rfl Try.func25 (by kernel_rfl) rfl #[.int .u64 9223372036854775808, .int .u64 0] rfl (by (try simp only [List.map_toArray, List.map_cons, List.map_nil]); first | done | rfl | (simp only [List.length_drop, List.length_take]; rfl)) ?_; (with_reducible refine (order_Max.calls k 9223372036854775808 0 t118 t119 _ A1.out).mono ?_); rintro e w' ⟨rfl, ⟨nd, rfl⟩⟩; refine ⟨_, rfl, ?_⟩) | ((with_reducible refine gate_callee (f := 18) rfl ?_); refine goesL_ (some 10) rfl rfl Try.func18 (by kernel_rfl) rfl #[.int .u64 9223372036854775808, .int .u64 0] rfl (by (try simp only [List.map_toArray, List.map_cons, List.map_nil]); first | done | rfl | (simp only [List.length_drop, List.length_take]; rfl)) ?_; (with_reducible refine (order_Cmp.calls k 9223372036854775808 0 t120 t121 _ A2.out).mono ?_); rintro e w' ⟨rfl, ⟨nd, rfl⟩⟩; refine ⟨_, rfl, ?_⟩))
    go_ret
    exact ⟨by first | rfl | (simp; done) | (simp [*]; done), by repeat (first | exact Drawn0.refl _ | apply Drawn0.step)⟩

/-! ### order_Less: function 15 -/
def order_Less.f (k : Nat) (a0 : Int) (a1 : Int) : Option (Bool) := (order_Cmp.f k a0 a1).bind fun bt122 => (if bt122.2 = true then (some (decide (bt122.1 < 0))) else (some false))
theorem order_Less.mono : ∀ a0 a1 k, LeO (order_Less.f k a0 a1) (order_Less.f (k + 1) a0 a1) := by
  intro a0 a1 k
  unfold order_Less.f
  repeat' first
      | (with_reducible exact order_Cmp.mono _ _ _)
      | (with_reducible exact LeO.refl _)
      | (with_reducible exact LeO.none _)
      | (with_reducible refine LeO.ite ?_ ?_)
      | (with_reducible refine LeO.bind ?_ (fun _ => ?_))
      | exact order_Cmp.mono _ _ _
      | exact LeO.none _
      | refine LeO.ite ?_ ?_
      | refine LeO.bind ?_ (fun _ => ?_)
set_option maxHeartbeats 8000000 in
set_option maxRecDepth 100000 in
theorem order_Less.calls (k : Nat) (a0 : Int) (a1 : Int) (r : Bool) (w : World) (h : order_Less.f k a0 a1 = some r) :
    Calls Try.prog 15 #[.int .u64 a0, .int .u64 a1] w fun e w' => e = .returned (.bool r) ∧ Drawn0 w w' := by
  have H : ((order_Cmp.f k a0 a1).bind fun bt122 => (if bt122.2 = true then (some (decide (bt122.1 < 0))) else (some false))) = some r := h
  clear h
  replace H := Option.bind_eq_some_iff.mp H
  obtain ⟨⟨t122, t123⟩, A30, H⟩ := H
  replace H : (if t123 = true then (some (decide (t122 < 0))) else (some false)) = some r := H
  have A3 := Aside0.mk A30
  clear A30
  by_cases c4 : t123 = true
  · subst c4
    have H1 : (some (decide (t122 < 0))) = some r := by rw [if_pos rfl] at H; exact H
    clear H
    have H := H1
    clear H1
    obtain rfl := Option.some.inj H
    go_enter Try.func15, Try.ntmps15
    go_wp2_with (first | ((with_reducible refine gate_callee (f := 18) rfl ?_); refine goesL_ (some 10) rfl rfl Try.func18 (by kernel_rfl) rfl #[.int .u64 a0, .int .u64 a1] rfl (by (try simp only [List.map_toArray, List.map_cons, List.map_nil]); first | done | rfl | (simp only [List.length_drop, List.length_take]; rfl)) ?_; (with_reducible refine (order_Cmp.calls k a0 a1 t122 true _ A3.out).mono ?_); rintro e w' ⟨rfl, ⟨nd, rfl⟩⟩; refine ⟨_, rfl, ?_⟩))
    go_ret
    exact ⟨by first | rfl | (simp; done) | (simp [*]; done), by repeat (first | exact Drawn0.refl _ | apply Drawn0.step)⟩
  · replace c4 := Bool.eq_false_iff.mpr c4
    subst c4
    have H1 : (some false) = some r := by rw [if_neg (show ¬ (false = true) by decide)] at H; exact H
    clear H
    have H := H1
    clear H1
    obtain rfl := Option.some.inj H
    go_enter Try.func15, Try.ntmps15
    go_wp2_with (first | ((with_reducible refine gate_callee (f := 18) rfl ?_); refine goesL_ (some 10) rfl rfl Try.func18 (by kernel_rfl) rfl #[.int .u64 a0, .int .u64 a1] rfl (by (try simp only [List.map_toArray, List.map_cons, List.map_nil]); first | done | rfl | (simp only [List.length_drop, List.length_take]; rfl)) ?_; (with_reducible refine (order_Cmp.calls k a0 a1 t122 false _ A3.out).mono ?_); rintro e w' ⟨rfl, ⟨nd, rfl⟩⟩; refine ⟨_, rfl, ?_⟩))
    go_ret
    exact ⟨by first | rfl | (simp; done) | (simp [*]; done), by repeat (first | exact Drawn0.refl _ | apply Drawn0.step)⟩

/-! ### order_Min: function 26 -/
def order_Min.f (k : Nat) (a0 : Int) (a1 : Int) : Option (Int × Int) := (order_nan.f k a0 a1).bind fun bt124 => (if bt124.2 = true then (some (9221120237041090560, bt124.1)) else ((order_Total.f k a0 a1).bind fun t126 => ((order_by_uint64.f (wrap64 (-t126)) a0 a1).bind fun t127 => (some (t127, 0)))))
theorem order_Min.mono : ∀ a0 a1 k, LeO (order_Min.f k a0 a1) (order_Min.f (k + 1) a0 a1) := by
  intro a0 a1 k
  unfold order_Min.f
  repeat' first
      | (with_reducible exact order_Total.mono _ _ _)
      | (with_reducible exact order_nan.mono _ _ _)
      | (with_reducible exact LeO.refl _)
      | (with_reducible exact LeO.none _)
      | (with_reducible refine LeO.ite ?_ ?_)
      | (with_reducible refine LeO.bind ?_ (fun _ => ?_))
      | exact order_Total.mono _ _ _
      | exact order_nan.mono _ _ _
      | exact LeO.none _
      | refine LeO.ite ?_ ?_
      | refine LeO.bind ?_ (fun _ => ?_)
set_option maxHeartbeats 8000000 in
set_option maxRecDepth 100000 in
theorem order_Min.calls (k : Nat) (a0 : Int) (a1 : Int) (r1 : Int) (r2 : Int) (w : World) (h : order_Min.f k a0 a1 = some (r1, r2)) :
    Calls Try.prog 26 #[.int .u64 a0, .int .u64 a1] w fun e w' => e = .returned (.tuple #[.int .u64 r1, .int .u8 r2]) ∧ Drawn0 w w' := by
  have H : ((order_nan.f k a0 a1).bind fun bt124 => (if bt124.2 = true then (some (9221120237041090560, bt124.1)) else ((order_Total.f k a0 a1).bind fun t126 => ((order_by_uint64.f (wrap64 (-t126)) a0 a1).bind fun t127 => (some (t127, 0)))))) = some (r1, r2) := h
  clear h
  replace H := Option.bind_eq_some_iff.mp H
  obtain ⟨⟨t124, t125⟩, A30, H⟩ := H
  replace H : (if t125 = true then (some (9221120237041090560, t124)) else ((order_Total.f k a0 a1).bind fun t126 => ((order_by_uint64.f (wrap64 (-t126)) a0 a1).bind fun t127 => (some (t127, 0))))) = some (r1, r2) := H
  have A3 := Aside0.mk A30
  clear A30
  by_cases c4 : t125 = true
  · subst c4
    have H1 : (some (9221120237041090560, t124)) = some (r1, r2) := by rw [if_pos rfl] at H; exact H
    clear H
    have H := H1
    clear H1
    simp only [Option.some.injEq, Prod.mk.injEq] at H
    obtain ⟨rfl, rfl⟩ := H
    go_enter Try.func26, Try.ntmps26
    go_wp2_with (first | ((with_reducible refine gate_callee (f := 50) rfl ?_); refine goesL_ (some 11) rfl rfl Try.func50 (by kernel_rfl) rfl #[.int .u64 a0, .int .u64 a1] rfl (by (try simp only [List.map_toArray, List.map_cons, List.map_nil]); first | done | rfl | (simp only [List.length_drop, List.length_take]; rfl)) ?_; (with_reducible refine (order_nan.calls k a0 a1 t124 true _ A3.out).mono ?_); rintro e w' ⟨rfl, ⟨nd, rfl⟩⟩; refine ⟨_, rfl, ?_⟩))
    go_ret2
    exact ⟨by first | rfl | (simp; done) | (simp [*]; done), by repeat (first | exact Drawn0.refl _ | apply Drawn0.step)⟩
  · replace c4 := Bool.eq_false_iff.mpr c4
    subst c4
    have H1 : ((order_Total.f k a0 a1).bind fun t126 => ((order_by_uint64.f (wrap64 (-t126)) a0 a1).bind fun t127 => (some (t127, 0)))) = some (r1, r2) := by rw [if_neg (show ¬ (false = true) by decide)] at H; exact H
    clear H
    have H := H1
    clear H1
    replace H := Option.bind_eq_some_iff.mp H
    obtain ⟨t126, A50, H⟩ := H
    replace H : ((order_by_uint64.f (wrap64 (-t126)) a0 a1).bind fun t127 => (some (t127, 0))) = some (r1, r2) := H
    have A5 := Aside0.mk A50
    clear A50
    replace H := Option.bind_eq_some_iff.mp H
    obtain ⟨t127, A60, H⟩ := H
    replace H : (some (t127, 0)) = some (r1, r2) := H
    have A6 := Aside0.mk A60
    clear A60
    simp only [Option.some.injEq, Prod.mk.injEq] at H
    obtain ⟨rfl, rfl⟩ := H
    go_enter Try.func26, Try.ntmps26
    go_wp2_with (first | ((with_reducible refine gate_callee (f := 50) rfl ?_); refine goesL_ (some 11) rfl rfl Try.func50 (by kernel_rfl) rfl #[.int .u64 a0, .int .u64 a1] rfl (by (try simp only [List.map_toArray, List.map_cons, List.map_nil]); first | done | rfl | (simp only [List.length_drop, List.length_take]; rfl)) ?_; (with_reducible refine (order_nan.calls k a0 a1 t124 false _ A3.out).mono ?_); rintro e w' ⟨rfl, ⟨nd, rfl⟩⟩; refine ⟨_, rfl, ?_⟩) | ((with_reducible refine gate_callee (f := 14) rfl ?_); refine goesL_ (some 18) rfl rfl Try.func14 (by kernel_rfl) rfl #[.int .u64 a0, .int .u64 a1] rfl (by (try simp only [List.map_toArray, List.map_cons, List.map_nil]); first | done | rfl | (simp only [List.length_drop, List.length_take]; rfl)) ?_; (with_reducible refine (order_Total.calls k a0 a1 t126 _ A5.out).mono ?_); rintro e w' ⟨rfl, ⟨nd, rfl⟩⟩; refine ⟨_, rfl, ?_⟩) | ((with_reducible refine gate_callee (f := 51) rfl ?_); refine goesL_ (some 22) rfl rfl Try.func51 (by kernel_rfl) rfl #[.int .i64 (wrap64 (-t126)), .int .u64 a0, .int .u64 a1] rfl (by (try simp only [List.map_toArray, List.map_cons, List.map_nil]); first | done | rfl | (simp only [List.length_drop, List.length_take]; rfl)) ?_; (with_reducible refine (order_by_uint64.calls (wrap64 (-t126)) a0 a1 t127 _ A6.out).mono ?_); rintro e w' ⟨rfl, ⟨nd, rfl⟩⟩; refine ⟨_, rfl, ?_⟩))
    go_ret2
    exact ⟨by first | rfl | (simp; done) | (simp [*]; done), by repeat (first | exact Drawn0.refl _ | apply Drawn0.step)⟩

/-! ### gimballaw06_OrderMost: function 6 -/
mutual
def gimballaw06_OrderMost.j0 : Nat → Int → Int → Int → Int → Int → Int → Bool → Option (Bool)
  | 0, _, _, _, _, _, _, _ => none
  | k + 1, x0, x1, x5, x6, x7, x8, x31 => if x31 = true then ((word_Signals.f k x0).bind fun t135 => (if t135 = true then (gimballaw06_OrderMost.j1 k x5 x6 x7 x8 0 true) else ((word_Signals.f k x1).bind fun t136 => (gimballaw06_OrderMost.j1 k x5 x6 x7 x8 0 t136)))) else (if x6 = 0 then (if x8 = 0 then (if x5 = x0 then (if x7 = x1 then ((order_Less.f k x5 x7).bind fun t137 => (if t137 = true then (some false) else ((order_Total.f k x7 x5).bind fun t138 => (some (decide (t138 ≤ 0)))))) else (if x5 = x1 then (if x7 = x0 then ((order_Less.f k x5 x7).bind fun t139 => (if t139 = true then (some false) else ((order_Total.f k x7 x5).bind fun t140 => (some (decide (t140 ≤ 0)))))) else (some false)) else (some false))) else (if x5 = x1 then (if x7 = x0 then ((order_Less.f k x5 x7).bind fun t141 => (if t141 = true then (some false) else ((order_Total.f k x7 x5).bind fun t142 => (some (decide (t142 ≤ 0)))))) else (some false)) else (some false))) else (some false)) else (some false))
def gimballaw06_OrderMost.j1 : Nat → Int → Int → Int → Int → Int → Bool → Option (Bool)
  | 0, _, _, _, _, _, _ => none
  | k + 1, x5, x6, x7, x8, x9, x37 => if x37 = true then (if x5 = 9221120237041090560 then (if x7 = 9221120237041090560 then (if x6 = 16 then (some (x8 == 16)) else (some false)) else (some false)) else (some false)) else (if x5 = 9221120237041090560 then (if x7 = 9221120237041090560 then (if x6 = x9 then (some (x8 == x9)) else (some false)) else (some false)) else (some false))
end
def gimballaw06_OrderMost.f (k : Nat) (a0 : Int) (a1 : Int) : Option (Bool) := (gimballaw06_head.f k).bind fun t128 => (if t128 = true then ((order_Max.f k a0 a1).bind fun bt129 => ((order_Min.f k a0 a1).bind fun bt131 => ((word_Kind.f k a0).bind fun t133 => (if t133 = 5 then (gimballaw06_OrderMost.j0 k a0 a1 bt129.1 bt129.2 bt131.1 bt131.2 true) else ((word_Kind.f k a1).bind fun t134 => (gimballaw06_OrderMost.j0 k a0 a1 bt129.1 bt129.2 bt131.1 bt131.2 (t134 == 5))))))) else (some false))
theorem gimballaw06_OrderMost.mono_l : ∀ k, (∀ y0 y1 y2 y3 y4 y5 y6, LeO (gimballaw06_OrderMost.j0 k y0 y1 y2 y3 y4 y5 y6) (gimballaw06_OrderMost.j0 (k + 1) y0 y1 y2 y3 y4 y5 y6)) ∧ (∀ y0 y1 y2 y3 y4 y5, LeO (gimballaw06_OrderMost.j1 k y0 y1 y2 y3 y4 y5) (gimballaw06_OrderMost.j1 (k + 1) y0 y1 y2 y3 y4 y5))
  | 0 => ⟨fun _ _ _ _ _ _ _ r h => by simp [gimballaw06_OrderMost.j0] at h, fun _ _ _ _ _ _ r h => by simp [gimballaw06_OrderMost.j1] at h⟩
  | k + 1 => by
    obtain ⟨ih0, ih1⟩ := gimballaw06_OrderMost.mono_l k
    refine ⟨?_, ?_⟩
    · intro y0 y1 y2 y3 y4 y5 y6
      unfold gimballaw06_OrderMost.j0
      repeat' first
      | (with_reducible exact ih0 _ _ _ _ _ _ _)
      | (with_reducible exact ih1 _ _ _ _ _ _)
      | (with_reducible exact gimballaw06_head.mono _)
      | (with_reducible exact order_Less.mono _ _ _)
      | (with_reducible exact order_Max.mono _ _ _)
      | (with_reducible exact order_Min.mono _ _ _)
      | (with_reducible exact order_Total.mono _ _ _)
      | (with_reducible exact word_Kind.mono _ _)
      | (with_reducible exact word_Signals.mono _ _)
      | (with_reducible exact LeO.refl _)
      | (with_reducible exact LeO.none _)
      | (with_reducible refine LeO.ite ?_ ?_)
      | (with_reducible refine LeO.bind ?_ (fun _ => ?_))
      | exact ih0 _ _ _ _ _ _ _
      | exact ih1 _ _ _ _ _ _
      | exact gimballaw06_head.mono _
      | exact order_Less.mono _ _ _
      | exact order_Max.mono _ _ _
      | exact order_Min.mono _ _ _
      | exact order_Total.mono _ _ _
      | exact word_Kind.mono _ _
      | exact word_Signals.mono _ _
      | exact LeO.none _
      | refine LeO.ite ?_ ?_
      | refine LeO.bind ?_ (fun _ => ?_)
    · intro y0 y1 y2 y3 y4 y5
      unfold gimballaw06_OrderMost.j1
      repeat' first
      | (with_reducible exact ih0 _ _ _ _ _ _ _)
      | (with_reducible exact ih1 _ _ _ _ _ _)
      | (with_reducible exact gimballaw06_head.mono _)
      | (with_reducible exact order_Less.mono _ _ _)
      | (with_reducible exact order_Max.mono _ _ _)
      | (with_reducible exact order_Min.mono _ _ _)
      | (with_reducible exact order_Total.mono _ _ _)
      | (with_reducible exact word_Kind.mono _ _)
      | (with_reducible exact word_Signals.mono _ _)
      | (with_reducible exact LeO.refl _)
      | (with_reducible exact LeO.none _)
      | (with_reducible refine LeO.ite ?_ ?_)
      | (with_reducible refine LeO.bind ?_ (fun _ => ?_))
      | exact ih0 _ _ _ _ _ _ _
      | exact ih1 _ _ _ _ _ _
      | exact gimballaw06_head.mono _
      | exact order_Less.mono _ _ _
      | exact order_Max.mono _ _ _
      | exact order_Min.mono _ _ _
      | exact order_Total.mono _ _ _
      | exact word_Kind.mono _ _
      | exact word_Signals.mono _ _
      | exact LeO.none _
      | refine LeO.ite ?_ ?_
      | refine LeO.bind ?_ (fun _ => ?_)
theorem gimballaw06_OrderMost.mono : ∀ a0 a1 k, LeO (gimballaw06_OrderMost.f k a0 a1) (gimballaw06_OrderMost.f (k + 1) a0 a1) := by
  intro a0 a1 k
  obtain ⟨ih0, ih1⟩ := gimballaw06_OrderMost.mono_l k
  unfold gimballaw06_OrderMost.f
  repeat' first
      | (with_reducible exact ih0 _ _ _ _ _ _ _)
      | (with_reducible exact ih1 _ _ _ _ _ _)
      | (with_reducible exact gimballaw06_head.mono _)
      | (with_reducible exact order_Less.mono _ _ _)
      | (with_reducible exact order_Max.mono _ _ _)
      | (with_reducible exact order_Min.mono _ _ _)
      | (with_reducible exact order_Total.mono _ _ _)
      | (with_reducible exact word_Kind.mono _ _)
      | (with_reducible exact word_Signals.mono _ _)
      | (with_reducible exact LeO.refl _)
      | (with_reducible exact LeO.none _)
      | (with_reducible refine LeO.ite ?_ ?_)
      | (with_reducible refine LeO.bind ?_ (fun _ => ?_))
      | exact ih0 _ _ _ _ _ _ _
      | exact ih1 _ _ _ _ _ _
      | exact gimballaw06_head.mono _
      | exact order_Less.mono _ _ _
      | exact order_Max.mono _ _ _
      | exact order_Min.mono _ _ _
      | exact order_Total.mono _ _ _
      | exact word_Kind.mono _ _
      | exact word_Signals.mono _ _
      | exact LeO.none _
      | refine LeO.ite ?_ ?_
      | refine LeO.bind ?_ (fun _ => ?_)
set_option maxHeartbeats 8000000 in
set_option maxRecDepth 100000 in
theorem gimballaw06_OrderMost.calls (k : Nat) (a0 : Int) (a1 : Int) (r : Bool) (w : World) (h : gimballaw06_OrderMost.f k a0 a1 = some r) :
    Calls Try.prog 6 #[.int .u64 a0, .int .u64 a1] w fun e w' => e = .returned (.bool r) ∧ Drawn0 w w' := by
  have H : ((gimballaw06_head.f k).bind fun t128 => (if t128 = true then ((order_Max.f k a0 a1).bind fun bt129 => ((order_Min.f k a0 a1).bind fun bt131 => ((word_Kind.f k a0).bind fun t133 => (if t133 = 5 then (gimballaw06_OrderMost.j0 k a0 a1 bt129.1 bt129.2 bt131.1 bt131.2 true) else ((word_Kind.f k a1).bind fun t134 => (gimballaw06_OrderMost.j0 k a0 a1 bt129.1 bt129.2 bt131.1 bt131.2 (t134 == 5))))))) else (some false))) = some r := h
  clear h
  replace H := Option.bind_eq_some_iff.mp H
  obtain ⟨t128, A30, H⟩ := H
  replace H : (if t128 = true then ((order_Max.f k a0 a1).bind fun bt129 => ((order_Min.f k a0 a1).bind fun bt131 => ((word_Kind.f k a0).bind fun t133 => (if t133 = 5 then (gimballaw06_OrderMost.j0 k a0 a1 bt129.1 bt129.2 bt131.1 bt131.2 true) else ((word_Kind.f k a1).bind fun t134 => (gimballaw06_OrderMost.j0 k a0 a1 bt129.1 bt129.2 bt131.1 bt131.2 (t134 == 5))))))) else (some false)) = some r := H
  have A3 := Aside0.mk A30
  clear A30
  by_cases c4 : t128 = true
  · subst c4
    have H1 : ((order_Max.f k a0 a1).bind fun bt129 => ((order_Min.f k a0 a1).bind fun bt131 => ((word_Kind.f k a0).bind fun t133 => (if t133 = 5 then (gimballaw06_OrderMost.j0 k a0 a1 bt129.1 bt129.2 bt131.1 bt131.2 true) else ((word_Kind.f k a1).bind fun t134 => (gimballaw06_OrderMost.j0 k a0 a1 bt129.1 bt129.2 bt131.1 bt131.2 (t134 == 5))))))) = some r := by rw [if_pos rfl] at H; exact H
    clear H
    have H := H1
    clear H1
    replace H := Option.bind_eq_some_iff.mp H
    obtain ⟨⟨t129, t130⟩, A50, H⟩ := H
    replace H : ((order_Min.f k a0 a1).bind fun bt131 => ((word_Kind.f k a0).bind fun t133 => (if t133 = 5 then (gimballaw06_OrderMost.j0 k a0 a1 t129 t130 bt131.1 bt131.2 true) else ((word_Kind.f k a1).bind fun t134 => (gimballaw06_OrderMost.j0 k a0 a1 t129 t130 bt131.1 bt131.2 (t134 == 5)))))) = some r := H
    have A5 := Aside0.mk A50
    clear A50
    replace H := Option.bind_eq_some_iff.mp H
    obtain ⟨⟨t131, t132⟩, A60, H⟩ := H
    replace H : ((word_Kind.f k a0).bind fun t133 => (if t133 = 5 then (gimballaw06_OrderMost.j0 k a0 a1 t129 t130 t131 t132 true) else ((word_Kind.f k a1).bind fun t134 => (gimballaw06_OrderMost.j0 k a0 a1 t129 t130 t131 t132 (t134 == 5))))) = some r := H
    have A6 := Aside0.mk A60
    clear A60
    have HC7 := Aside0.mk H
    clear H
    go_enter Try.func6, Try.ntmps6
    go_upto_region 5 with (first | ((with_reducible refine gate_callee (f := 13) rfl ?_); refine goesL_ (some 10) rfl rfl Try.func13 (by kernel_rfl) rfl #[] rfl (by (try simp only [List.map_toArray, List.map_cons, List.map_nil]); first | done | rfl | (simp only [List.length_drop, List.length_take]; rfl)) ?_; (with_reducible refine (gimballaw06_head.calls k  true _ A3.out).mono ?_); rintro e w' ⟨rfl, ⟨nd, rfl⟩⟩; refine ⟨_, rfl, ?_⟩) | ((with_reducible refine gate_callee (f := 25) rfl ?_); refine goesL_ (some 15) rfl rfl Try.func25 (by kernel_rfl) rfl #[.int .u64 a0, .int .u64 a1] rfl (by (try simp only [List.map_toArray, List.map_cons, List.map_nil]); first | done | rfl | (simp only [List.length_drop, List.length_take]; rfl)) ?_; (with_reducible refine (order_Max.calls k a0 a1 t129 t130 _ A5.out).mono ?_); rintro e w' ⟨rfl, ⟨nd, rfl⟩⟩; refine ⟨_, rfl, ?_⟩) | ((with_reducible refine gate_callee (f := 26) rfl ?_); refine goesL_ (some 21) rfl rfl Try.func26 (by kernel_rfl) rfl #[.int .u64 a0, .int .u64 a1] rfl (by (try simp only [List.map_toArray, List.map_cons, List.map_nil]); first | done | rfl | (simp only [List.length_drop, List.length_take]; rfl)) ?_; (with_reducible refine (order_Min.calls k a0 a1 t131 t132 _ A6.out).mono ?_); rintro e w' ⟨rfl, ⟨nd, rfl⟩⟩; refine ⟨_, rfl, ?_⟩))
    (try simp only [Act.put, List.setIfInBounds_toArray, List.set_cons_zero, List.set_cons_succ])
    go_cut [31] (fun v31 wc => ∃ (kq : Nat) (x31_6 : Bool), v31 = .bool x31_6 ∧ Aside0 (gimballaw06_OrderMost.j0 kq a0 a1 t129 t130 t131 t132 x31_6 = some r) ∧ Aside0 (kq ≤ k) ∧ Drawn0 w wc)
    case first =>
      have H := HC7.out
      clear HC7
      replace H := Option.bind_eq_some_iff.mp H
      obtain ⟨t133, A80, H⟩ := H
      replace H : (if t133 = 5 then (gimballaw06_OrderMost.j0 k a0 a1 t129 t130 t131 t132 true) else ((word_Kind.f k a1).bind fun t134 => (gimballaw06_OrderMost.j0 k a0 a1 t129 t130 t131 t132 (t134 == 5)))) = some r := H
      have A8 := Aside0.mk A80
      clear A80
      by_cases c9 : t133 = 5
      · rw [if_pos c9] at H
        have c9b0 : (t133 == 5) = true := beq_iff_eq.mpr c9
        have c9b1 : (t133 != 5) = false := bne_eq_false_iff_eq.mpr c9
        clear c9
        (first | rw [c9b0] | (simp only [i64_w, i32_w]; rw [c9b0]) | skip)
        have H' := Aside0.mk H
        clear H
        go_wp2_with (first | ((with_reducible refine gate_callee (f := 27) rfl ?_); refine goesL_ (some 25) rfl rfl Try.func27 (by kernel_rfl) rfl #[.int .u64 a0] rfl (by (try simp only [List.map_toArray, List.map_cons, List.map_nil]); first | done | rfl | (simp only [List.length_drop, List.length_take]; rfl)) ?_; (with_reducible refine (word_Kind.calls k a0 t133 _ A8.out).mono ?_); rintro e w' ⟨rfl, ⟨nd, rfl⟩⟩; refine ⟨_, rfl, ?_⟩))
        go_meet
        case rel => exact ⟨_, (true), (by first | rfl | (simp; done) | (simp [*]; done)), H', ⟨by first | omega | exact Nat.le_refl _⟩, by repeat (first | exact Drawn0.refl _ | apply Drawn0.step)⟩
      · rw [if_neg c9] at H
        have c9b0 : (t133 == 5) = false := beq_eq_false_iff_ne.mpr c9
        have c9b1 : (t133 != 5) = true := bne_iff_ne.mpr c9
        (first | rw [c9b0] | (simp only [i64_w, i32_w]; rw [c9b0]) | skip)
        replace H := Option.bind_eq_some_iff.mp H
        obtain ⟨t134, A100, H⟩ := H
        replace H : (gimballaw06_OrderMost.j0 k a0 a1 t129 t130 t131 t132 (t134 == 5)) = some r := H
        have A10 := Aside0.mk A100
        clear A100
        have H' := Aside0.mk H
        clear H
        go_wp2_with (first | ((with_reducible refine gate_callee (f := 27) rfl ?_); refine goesL_ (some 25) rfl rfl Try.func27 (by kernel_rfl) rfl #[.int .u64 a0] rfl (by (try simp only [List.map_toArray, List.map_cons, List.map_nil]); first | done | rfl | (simp only [List.length_drop, List.length_take]; rfl)) ?_; (with_reducible refine (word_Kind.calls k a0 t133 _ A8.out).mono ?_); rintro e w' ⟨rfl, ⟨nd, rfl⟩⟩; refine ⟨_, rfl, ?_⟩) | (go_at_call 27; (with_reducible refine (word_Kind.calls k a1 t134 _ A10.out).mono ?_); rintro e w' ⟨rfl, ⟨nd, rfl⟩⟩))
        go_meet
        case rel => exact ⟨_, ((t134 == 5)), (by first | rfl | (simp; done) | (simp [*]; done)), H', ⟨by first | omega | exact Nat.le_refl _⟩, by repeat (first | exact Drawn0.refl _ | apply Drawn0.step)⟩
    case rest =>
      clear HC7
      try clear c1
      try clear c2
      try clear p2
      try clear c4
      try clear c6
      try clear c9
      try clear c9b0
      try clear c9b1
      obtain ⟨kq, x31_6, rfl, HA, HJ6, ⟨mc6, rfl⟩⟩ := hcut
      cases kq with
      | zero => exact absurd HA.out (by simp [gimballaw06_OrderMost.j0])
      | succ kj6 =>
        have H := HA.out
        clear HA
        simp only [gimballaw06_OrderMost.j0] at H
        by_cases c11 : x31_6 = true
        · subst c11
          have H1 : ((word_Signals.f kj6 a0).bind fun t135 => (if t135 = true then (gimballaw06_OrderMost.j1 kj6 t129 t130 t131 t132 0 true) else ((word_Signals.f kj6 a1).bind fun t136 => (gimballaw06_OrderMost.j1 kj6 t129 t130 t131 t132 0 t136)))) = some r := by rw [if_pos rfl] at H; exact H
          clear H
          have H := H1
          clear H1
          have HC12 := Aside0.mk H
          clear H
          go_upto_region 7 with (fail)
          go_cut [37] (fun v37 wc => ∃ (kq : Nat) (x37_11 : Bool), v37 = .bool x37_11 ∧ Aside0 (gimballaw06_OrderMost.j1 kq t129 t130 t131 t132 0 x37_11 = some r) ∧ Aside0 (kq ≤ kj6) ∧ Drawn0 w wc)
          case first =>
            have H := HC12.out
            clear HC12
            replace H := Option.bind_eq_some_iff.mp H
            obtain ⟨t135, A130, H⟩ := H
            replace H : (if t135 = true then (gimballaw06_OrderMost.j1 kj6 t129 t130 t131 t132 0 true) else ((word_Signals.f kj6 a1).bind fun t136 => (gimballaw06_OrderMost.j1 kj6 t129 t130 t131 t132 0 t136))) = some r := H
            have A13 := Aside0.mk A130
            clear A130
            by_cases c14 : t135 = true
            · subst c14
              have H1 : (gimballaw06_OrderMost.j1 kj6 t129 t130 t131 t132 0 true) = some r := by rw [if_pos rfl] at H; exact H
              clear H
              have H := H1
              clear H1
              have H' := Aside0.mk H
              clear H
              go_wp2_with (first | ((with_reducible refine gate_callee (f := 28) rfl ?_); refine goesL_ (some 33) rfl rfl Try.func28 (by kernel_rfl) rfl #[.int .u64 a0] rfl (by (try simp only [List.map_toArray, List.map_cons, List.map_nil]); first | done | rfl | (simp only [List.length_drop, List.length_take]; rfl)) ?_; (with_reducible refine (word_Signals.calls kj6 a0 true _ A13.out).mono ?_); rintro e w' ⟨rfl, ⟨nd, rfl⟩⟩; refine ⟨_, rfl, ?_⟩))
              go_meet
              case rel => exact ⟨_, (true), (by first | rfl | (simp; done) | (simp [*]; done)), H', ⟨by have := HJ6.out; first | omega | exact Nat.le_refl _⟩, by repeat (first | exact Drawn0.refl _ | apply Drawn0.step)⟩
            · replace c14 := Bool.eq_false_iff.mpr c14
              subst c14
              have H1 : ((word_Signals.f kj6 a1).bind fun t136 => (gimballaw06_OrderMost.j1 kj6 t129 t130 t131 t132 0 t136)) = some r := by rw [if_neg (show ¬ (false = true) by decide)] at H; exact H
              clear H
              have H := H1
              clear H1
              replace H := Option.bind_eq_some_iff.mp H
              obtain ⟨t136, A150, H⟩ := H
              replace H : (gimballaw06_OrderMost.j1 kj6 t129 t130 t131 t132 0 t136) = some r := H
              have A15 := Aside0.mk A150
              clear A150
              have H' := Aside0.mk H
              clear H
              go_wp2_with (first | ((with_reducible refine gate_callee (f := 28) rfl ?_); refine goesL_ (some 33) rfl rfl Try.func28 (by kernel_rfl) rfl #[.int .u64 a0] rfl (by (try simp only [List.map_toArray, List.map_cons, List.map_nil]); first | done | rfl | (simp only [List.length_drop, List.length_take]; rfl)) ?_; (with_reducible refine (word_Signals.calls kj6 a0 false _ A13.out).mono ?_); rintro e w' ⟨rfl, ⟨nd, rfl⟩⟩; refine ⟨_, rfl, ?_⟩) | (go_at_call 28; (with_reducible refine (word_Signals.calls kj6 a1 t136 _ A15.out).mono ?_); rintro e w' ⟨rfl, ⟨nd, rfl⟩⟩))
              go_meet
              case rel => exact ⟨_, (t136), (by first | rfl | (simp; done) | (simp [*]; done)), H', ⟨by have := HJ6.out; first | omega | exact Nat.le_refl _⟩, by repeat (first | exact Drawn0.refl _ | apply Drawn0.step)⟩
          case rest =>
            clear HC12
            try clear c1
            try clear c2
            try clear p2
            try clear c4
            try clear c6
            try clear c9
            try clear c9b0
            try clear c9b1
            try clear c11
            try clear c13
            try clear c14
            try clear p2
            obtain ⟨kq, x37_11, rfl, HA, HJ11, ⟨mc11, rfl⟩⟩ := hcut
            cases kq with
            | zero => exact absurd HA.out (by simp [gimballaw06_OrderMost.j1])
            | succ kj11 =>
              have H := HA.out
              clear HA
              simp only [gimballaw06_OrderMost.j1] at H
              by_cases c16 : x37_11 = true
              · subst c16
                have H1 : (if t129 = 9221120237041090560 then (if t131 = 9221120237041090560 then (if t130 = 16 then (some (t132 == 16)) else (some false)) else (some false)) else (some false)) = some r := by rw [if_pos rfl] at H; exact H
                clear H
                have H := H1
                clear H1
                by_cases c17 : t129 = 9221120237041090560
                · rw [if_pos c17] at H
                  have c17b0 : (t129 == 9221120237041090560) = true := beq_iff_eq.mpr c17
                  have c17b1 : (t129 != 9221120237041090560) = false := bne_eq_false_iff_eq.mpr c17
                  clear c17
                  by_cases c18 : t131 = 9221120237041090560
                  · rw [if_pos c18] at H
                    have c18b0 : (t131 == 9221120237041090560) = true := beq_iff_eq.mpr c18
                    have c18b1 : (t131 != 9221120237041090560) = false := bne_eq_false_iff_eq.mpr c18
                    clear c18
                    by_cases c19 : t130 = 16
                    · rw [if_pos c19] at H
                      have c19b0 : (t130 == 16) = true := beq_iff_eq.mpr c19
                      have c19b1 : (t130 != 16) = false := bne_eq_false_iff_eq.mpr c19
                      clear c19
                      obtain rfl := Option.some.inj H
                      go_wp2
                      go_ret
                      exact ⟨by first | rfl | (simp; done) | (simp [*]; done), by repeat (first | exact Drawn0.refl _ | apply Drawn0.step)⟩
                    · rw [if_neg c19] at H
                      have c19b0 : (t130 == 16) = false := beq_eq_false_iff_ne.mpr c19
                      have c19b1 : (t130 != 16) = true := bne_iff_ne.mpr c19
                      obtain rfl := Option.some.inj H
                      go_wp2
                      go_ret
                      exact ⟨by first | rfl | (simp; done) | (simp [*]; done), by repeat (first | exact Drawn0.refl _ | apply Drawn0.step)⟩
                  · rw [if_neg c18] at H
                    have c18b0 : (t131 == 9221120237041090560) = false := beq_eq_false_iff_ne.mpr c18
                    have c18b1 : (t131 != 9221120237041090560) = true := bne_iff_ne.mpr c18
                    obtain rfl := Option.some.inj H
                    go_wp2
                    go_ret
                    exact ⟨by first | rfl | (simp; done) | (simp [*]; done), by repeat (first | exact Drawn0.refl _ | apply Drawn0.step)⟩
                · rw [if_neg c17] at H
                  have c17b0 : (t129 == 9221120237041090560) = false := beq_eq_false_iff_ne.mpr c17
                  have c17b1 : (t129 != 9221120237041090560) = true := bne_iff_ne.mpr c17
                  obtain rfl := Option.some.inj H
                  go_wp2
                  go_ret
                  exact ⟨by first | rfl | (simp; done) | (simp [*]; done), by repeat (first | exact Drawn0.refl _ | apply Drawn0.step)⟩
              · replace c16 := Bool.eq_false_iff.mpr c16
                subst c16
                have H1 : (if t129 = 9221120237041090560 then (if t131 = 9221120237041090560 then (if t130 = 0 then (some (t132 == 0)) else (some false)) else (some false)) else (some false)) = some r := by rw [if_neg (show ¬ (false = true) by decide)] at H; exact H
                clear H
                have H := H1
                clear H1
                by_cases c20 : t129 = 9221120237041090560
                · rw [if_pos c20] at H
                  have c20b0 : (t129 == 9221120237041090560) = true := beq_iff_eq.mpr c20
                  have c20b1 : (t129 != 9221120237041090560) = false := bne_eq_false_iff_eq.mpr c20
                  clear c20
                  by_cases c21 : t131 = 9221120237041090560
                  · rw [if_pos c21] at H
                    have c21b0 : (t131 == 9221120237041090560) = true := beq_iff_eq.mpr c21
                    have c21b1 : (t131 != 9221120237041090560) = false := bne_eq_false_iff_eq.mpr c21
                    clear c21
                    by_cases c22 : t130 = 0
                    · rw [if_pos c22] at H
                      have c22b0 : (t130 == 0) = true := beq_iff_eq.mpr c22
                      have c22b1 : (t130 != 0) = false := bne_eq_false_iff_eq.mpr c22
                      clear c22
                      obtain rfl := Option.some.inj H
                      go_wp2
                      go_ret
                      exact ⟨by first | rfl | (simp; done) | (simp [*]; done), by repeat (first | exact Drawn0.refl _ | apply Drawn0.step)⟩
                    · rw [if_neg c22] at H
                      have c22b0 : (t130 == 0) = false := beq_eq_false_iff_ne.mpr c22
                      have c22b1 : (t130 != 0) = true := bne_iff_ne.mpr c22
                      obtain rfl := Option.some.inj H
                      go_wp2
                      go_ret
                      exact ⟨by first | rfl | (simp; done) | (simp [*]; done), by repeat (first | exact Drawn0.refl _ | apply Drawn0.step)⟩
                  · rw [if_neg c21] at H
                    have c21b0 : (t131 == 9221120237041090560) = false := beq_eq_false_iff_ne.mpr c21
                    have c21b1 : (t131 != 9221120237041090560) = true := bne_iff_ne.mpr c21
                    obtain rfl := Option.some.inj H
                    go_wp2
                    go_ret
                    exact ⟨by first | rfl | (simp; done) | (simp [*]; done), by repeat (first | exact Drawn0.refl _ | apply Drawn0.step)⟩
                · rw [if_neg c20] at H
                  have c20b0 : (t129 == 9221120237041090560) = false := beq_eq_false_iff_ne.mpr c20
                  have c20b1 : (t129 != 9221120237041090560) = true := bne_iff_ne.mpr c20
                  obtain rfl := Option.some.inj H
                  go_wp2
                  go_ret
                  exact ⟨by first | rfl | (simp; done) | (simp [*]; done), by repeat (first | exact Drawn0.refl _ | apply Drawn0.step)⟩
        · replace c11 := Bool.eq_false_iff.mpr c11
          subst c11
          have H1 : (if t130 = 0 then (if t132 = 0 then (if t129 = a0 then (if t131 = a1 then ((order_Less.f kj6 t129 t131).bind fun t137 => (if t137 = true then (some false) else ((order_Total.f kj6 t131 t129).bind fun t138 => (some (decide (t138 ≤ 0)))))) else (if t129 = a1 then (if t131 = a0 then ((order_Less.f kj6 t129 t131).bind fun t139 => (if t139 = true then (some false) else ((order_Total.f kj6 t131 t129).bind fun t140 => (some (decide (t140 ≤ 0)))))) else (some false)) else (some false))) else (if t129 = a1 then (if t131 = a0 then ((order_Less.f kj6 t129 t131).bind fun t141 => (if t141 = true then (some false) else ((order_Total.f kj6 t131 t129).bind fun t142 => (some (decide (t142 ≤ 0)))))) else (some false)) else (some false))) else (some false)) else (some false)) = some r := by rw [if_neg (show ¬ (false = true) by decide)] at H; exact H
          clear H
          have H := H1
          clear H1
          by_cases c23 : t130 = 0
          · rw [if_pos c23] at H
            have c23b0 : (t130 == 0) = true := beq_iff_eq.mpr c23
            have c23b1 : (t130 != 0) = false := bne_eq_false_iff_eq.mpr c23
            clear c23
            by_cases c24 : t132 = 0
            · rw [if_pos c24] at H
              have c24b0 : (t132 == 0) = true := beq_iff_eq.mpr c24
              have c24b1 : (t132 != 0) = false := bne_eq_false_iff_eq.mpr c24
              clear c24
              by_cases c25 : t129 = a0
              · rw [if_pos c25] at H
                have c25b0 : (t129 == a0) = true := beq_iff_eq.mpr c25
                have c25b1 : (t129 != a0) = false := bne_eq_false_iff_eq.mpr c25
                clear c25
                by_cases c26 : t131 = a1
                · rw [if_pos c26] at H
                  have c26b0 : (t131 == a1) = true := beq_iff_eq.mpr c26
                  have c26b1 : (t131 != a1) = false := bne_eq_false_iff_eq.mpr c26
                  clear c26
                  replace H := Option.bind_eq_some_iff.mp H
                  obtain ⟨t137, A270, H⟩ := H
                  replace H : (if t137 = true then (some false) else ((order_Total.f kj6 t131 t129).bind fun t138 => (some (decide (t138 ≤ 0))))) = some r := H
                  have A27 := Aside0.mk A270
                  clear A270
                  by_cases c28 : t137 = true
                  · subst c28
                    have H1 : (some false) = some r := by rw [if_pos rfl] at H; exact H
                    clear H
                    have H := H1
                    clear H1
                    obtain rfl := Option.some.inj H
                    go_wp2_with (first | (go_at_call 15; (with_reducible refine (order_Less.calls kj6 t129 t131 true _ A27.out).mono ?_); rintro e w' ⟨rfl, ⟨nd, rfl⟩⟩))
                    go_ret
                    exact ⟨by first | rfl | (simp; done) | (simp [*]; done), by repeat (first | exact Drawn0.refl _ | apply Drawn0.step)⟩
                  · replace c28 := Bool.eq_false_iff.mpr c28
                    subst c28
                    have H1 : ((order_Total.f kj6 t131 t129).bind fun t138 => (some (decide (t138 ≤ 0)))) = some r := by rw [if_neg (show ¬ (false = true) by decide)] at H; exact H
                    clear H
                    have H := H1
                    clear H1
                    replace H := Option.bind_eq_some_iff.mp H
                    obtain ⟨t138, A290, H⟩ := H
                    replace H : (some (decide (t138 ≤ 0))) = some r := H
                    have A29 := Aside0.mk A290
                    clear A290
                    obtain rfl := Option.some.inj H
                    go_wp2_with (first | (go_at_call 15; (with_reducible refine (order_Less.calls kj6 t129 t131 false _ A27.out).mono ?_); rintro e w' ⟨rfl, ⟨nd, rfl⟩⟩) | (go_at_call 14; (with_reducible refine (order_Total.calls kj6 t131 t129 t138 _ A29.out).mono ?_); rintro e w' ⟨rfl, ⟨nd, rfl⟩⟩))
                    go_ret
                    exact ⟨by first | rfl | (simp; done) | (simp [*]; done), by repeat (first | exact Drawn0.refl _ | apply Drawn0.step)⟩
                · rw [if_neg c26] at H
                  have c26b0 : (t131 == a1) = false := beq_eq_false_iff_ne.mpr c26
                  have c26b1 : (t131 != a1) = true := bne_iff_ne.mpr c26
                  by_cases c30 : t129 = a1
                  · rw [if_pos c30] at H
                    have c30b0 : (t129 == a1) = true := beq_iff_eq.mpr c30
                    have c30b1 : (t129 != a1) = false := bne_eq_false_iff_eq.mpr c30
                    clear c30
                    by_cases c31 : t131 = a0
                    · rw [if_pos c31] at H
                      have c31b0 : (t131 == a0) = true := beq_iff_eq.mpr c31
                      have c31b1 : (t131 != a0) = false := bne_eq_false_iff_eq.mpr c31
                      clear c31
                      replace H := Option.bind_eq_some_iff.mp H
                      obtain ⟨t139, A320, H⟩ := H
                      replace H : (if t139 = true then (some false) else ((order_Total.f kj6 t131 t129).bind fun t140 => (some (decide (t140 ≤ 0))))) = some r := H
                      have A32 := Aside0.mk A320
                      clear A320
                      by_cases c33 : t139 = true
                      · subst c33
                        have H1 : (some false) = some r := by rw [if_pos rfl] at H; exact H
                        clear H
                        have H := H1
                        clear H1
                        obtain rfl := Option.some.inj H
                        go_wp2_with (first | (go_at_call 15; (with_reducible refine (order_Less.calls kj6 t129 t131 true _ A32.out).mono ?_); rintro e w' ⟨rfl, ⟨nd, rfl⟩⟩))
                        go_ret
                        exact ⟨by first | rfl | (simp; done) | (simp [*]; done), by repeat (first | exact Drawn0.refl _ | apply Drawn0.step)⟩
                      · replace c33 := Bool.eq_false_iff.mpr c33
                        subst c33
                        have H1 : ((order_Total.f kj6 t131 t129).bind fun t140 => (some (decide (t140 ≤ 0)))) = some r := by rw [if_neg (show ¬ (false = true) by decide)] at H; exact H
                        clear H
                        have H := H1
                        clear H1
                        replace H := Option.bind_eq_some_iff.mp H
                        obtain ⟨t140, A340, H⟩ := H
                        replace H : (some (decide (t140 ≤ 0))) = some r := H
                        have A34 := Aside0.mk A340
                        clear A340
                        obtain rfl := Option.some.inj H
                        go_wp2_with (first | (go_at_call 15; (with_reducible refine (order_Less.calls kj6 t129 t131 false _ A32.out).mono ?_); rintro e w' ⟨rfl, ⟨nd, rfl⟩⟩) | (go_at_call 14; (with_reducible refine (order_Total.calls kj6 t131 t129 t140 _ A34.out).mono ?_); rintro e w' ⟨rfl, ⟨nd, rfl⟩⟩))
                        go_ret
                        exact ⟨by first | rfl | (simp; done) | (simp [*]; done), by repeat (first | exact Drawn0.refl _ | apply Drawn0.step)⟩
                    · rw [if_neg c31] at H
                      have c31b0 : (t131 == a0) = false := beq_eq_false_iff_ne.mpr c31
                      have c31b1 : (t131 != a0) = true := bne_iff_ne.mpr c31
                      obtain rfl := Option.some.inj H
                      go_wp2
                      go_ret
                      exact ⟨by first | rfl | (simp; done) | (simp [*]; done), by repeat (first | exact Drawn0.refl _ | apply Drawn0.step)⟩
                  · rw [if_neg c30] at H
                    have c30b0 : (t129 == a1) = false := beq_eq_false_iff_ne.mpr c30
                    have c30b1 : (t129 != a1) = true := bne_iff_ne.mpr c30
                    obtain rfl := Option.some.inj H
                    go_wp2
                    go_ret
                    exact ⟨by first | rfl | (simp; done) | (simp [*]; done), by repeat (first | exact Drawn0.refl _ | apply Drawn0.step)⟩
              · rw [if_neg c25] at H
                have c25b0 : (t129 == a0) = false := beq_eq_false_iff_ne.mpr c25
                have c25b1 : (t129 != a0) = true := bne_iff_ne.mpr c25
                by_cases c35 : t129 = a1
                · rw [if_pos c35] at H
                  have c35b0 : (t129 == a1) = true := beq_iff_eq.mpr c35
                  have c35b1 : (t129 != a1) = false := bne_eq_false_iff_eq.mpr c35
                  clear c35
                  by_cases c36 : t131 = a0
                  · rw [if_pos c36] at H
                    have c36b0 : (t131 == a0) = true := beq_iff_eq.mpr c36
                    have c36b1 : (t131 != a0) = false := bne_eq_false_iff_eq.mpr c36
                    clear c36
                    replace H := Option.bind_eq_some_iff.mp H
                    obtain ⟨t141, A370, H⟩ := H
                    replace H : (if t141 = true then (some false) else ((order_Total.f kj6 t131 t129).bind fun t142 => (some (decide (t142 ≤ 0))))) = some r := H
                    have A37 := Aside0.mk A370
                    clear A370
                    by_cases c38 : t141 = true
                    · subst c38
                      have H1 : (some false) = some r := by rw [if_pos rfl] at H; exact H
                      clear H
                      have H := H1
                      clear H1
                      obtain rfl := Option.some.inj H
                      go_wp2_with (first | (go_at_call 15; (with_reducible refine (order_Less.calls kj6 t129 t131 true _ A37.out).mono ?_); rintro e w' ⟨rfl, ⟨nd, rfl⟩⟩))
                      go_ret
                      exact ⟨by first | rfl | (simp; done) | (simp [*]; done), by repeat (first | exact Drawn0.refl _ | apply Drawn0.step)⟩
                    · replace c38 := Bool.eq_false_iff.mpr c38
                      subst c38
                      have H1 : ((order_Total.f kj6 t131 t129).bind fun t142 => (some (decide (t142 ≤ 0)))) = some r := by rw [if_neg (show ¬ (false = true) by decide)] at H; exact H
                      clear H
                      have H := H1
                      clear H1
                      replace H := Option.bind_eq_some_iff.mp H
                      obtain ⟨t142, A390, H⟩ := H
                      replace H : (some (decide (t142 ≤ 0))) = some r := H
                      have A39 := Aside0.mk A390
                      clear A390
                      obtain rfl := Option.some.inj H
                      go_wp2_with (first | (go_at_call 15; (with_reducible refine (order_Less.calls kj6 t129 t131 false _ A37.out).mono ?_); rintro e w' ⟨rfl, ⟨nd, rfl⟩⟩) | (go_at_call 14; (with_reducible refine (order_Total.calls kj6 t131 t129 t142 _ A39.out).mono ?_); rintro e w' ⟨rfl, ⟨nd, rfl⟩⟩))
                      go_ret
                      exact ⟨by first | rfl | (simp; done) | (simp [*]; done), by repeat (first | exact Drawn0.refl _ | apply Drawn0.step)⟩
                  · rw [if_neg c36] at H
                    have c36b0 : (t131 == a0) = false := beq_eq_false_iff_ne.mpr c36
                    have c36b1 : (t131 != a0) = true := bne_iff_ne.mpr c36
                    obtain rfl := Option.some.inj H
                    go_wp2
                    go_ret
                    exact ⟨by first | rfl | (simp; done) | (simp [*]; done), by repeat (first | exact Drawn0.refl _ | apply Drawn0.step)⟩
                · rw [if_neg c35] at H
                  have c35b0 : (t129 == a1) = false := beq_eq_false_iff_ne.mpr c35
                  have c35b1 : (t129 != a1) = true := bne_iff_ne.mpr c35
                  obtain rfl := Option.some.inj H
                  go_wp2
                  go_ret
                  exact ⟨by first | rfl | (simp; done) | (simp [*]; done), by repeat (first | exact Drawn0.refl _ | apply Drawn0.step)⟩
            · rw [if_neg c24] at H
              have c24b0 : (t132 == 0) = false := beq_eq_false_iff_ne.mpr c24
              have c24b1 : (t132 != 0) = true := bne_iff_ne.mpr c24
              obtain rfl := Option.some.inj H
              go_wp2
              go_ret
              exact ⟨by first | rfl | (simp; done) | (simp [*]; done), by repeat (first | exact Drawn0.refl _ | apply Drawn0.step)⟩
          · rw [if_neg c23] at H
            have c23b0 : (t130 == 0) = false := beq_eq_false_iff_ne.mpr c23
            have c23b1 : (t130 != 0) = true := bne_iff_ne.mpr c23
            obtain rfl := Option.some.inj H
            go_wp2
            go_ret
            exact ⟨by first | rfl | (simp; done) | (simp [*]; done), by repeat (first | exact Drawn0.refl _ | apply Drawn0.step)⟩
  · replace c4 := Bool.eq_false_iff.mpr c4
    subst c4
    have H1 : (some false) = some r := by rw [if_neg (show ¬ (false = true) by decide)] at H; exact H
    clear H
    have H := H1
    clear H1
    obtain rfl := Option.some.inj H
    go_enter Try.func6, Try.ntmps6
    go_wp2_with (first | ((with_reducible refine gate_callee (f := 13) rfl ?_); refine goesL_ (some 10) rfl rfl Try.func13 (by kernel_rfl) rfl #[] rfl (by (try simp only [List.map_toArray, List.map_cons, List.map_nil]); first | done | rfl | (simp only [List.length_drop, List.length_take]; rfl)) ?_; (with_reducible refine (gimballaw06_head.calls k  false _ A3.out).mono ?_); rintro e w' ⟨rfl, ⟨nd, rfl⟩⟩; refine ⟨_, rfl, ?_⟩))
    go_ret
    exact ⟨by first | rfl | (simp; done) | (simp [*]; done), by repeat (first | exact Drawn0.refl _ | apply Drawn0.step)⟩

/-- THE ONE PURE STATEMENT of gimballaw06_OrderMost: yours. -/
def gimballaw06_OrderMost.Pure : Prop := ∀ (a0 : Int) (a1 : Int), (Lit.int .u64 a0).wf = true → (Lit.int .u64 a1).wf = true → ∃ k, gimballaw06_OrderMost.f k a0 a1 = some true
theorem gimballaw06_OrderMost.walk (P : gimballaw06_OrderMost.Pure) (a0 : Int) (a1 : Int) (w : World) (w0 : (Lit.int .u64 a0).wf = true) (w1 : (Lit.int .u64 a1).wf = true) :
    Calls Try.prog 6 #[.int .u64 a0, .int .u64 a1] w fun e w' => e = .returned (.bool true) ∧ Below w.heap.size w w' := by
  obtain ⟨k, h⟩ := P a0 a1 w0 w1
  refine (gimballaw06_OrderMost.calls k a0 a1 true w h).mono ?_
  rintro e w' ⟨rfl, hd⟩
  exact ⟨rfl, hd.below⟩

end Go.Proofs.Ytlnpcbhbcmhbkaa.POrderMost
