-- Written by a program of this session (wip/myprint.py, a changed print) out of Lean's own print of the translation. Lean checks it.
import Derived.Test.YtlnpcbhbcmhbkaaQRoundNearx0
import Derived.Test.YtlnpcbhbcmhbkaaQRoundNearx2
import Derived.Test.YtlnpcbhbcmhbkaaQRoundNearx3
import Derived.Test.YtlnpcbhbcmhbkaaQRoundNearx4
namespace Go.Proofs.Ytlnpcbhbcmhbkaa.QRoundNear
open Go.RowKit Go.Proofs.YtlnpcbhbcmhbkaaW.PrintWords Go.Proofs.YtlnpcbhbcmhbkaaW.PrintLast Go.Proofs.YtlnpcbhbcmhbkaaW.PrintMore Go.Proofs.Ytlnpcbhbcmhbkaa.UX
attribute [local go_sem] max2_int min2_int max_two min_two max_three min_three max_four min_four   -- for this text's walks alone
set_option linter.unusedVariables false
set_option linter.unusedSimpArgs false

/-! ### round_Round: function 31 -/
mutual
def round_Round.j0 : Nat → Bool → Int → Bool → Int → Bool → Int → Int → Option (Int × Int)
  | 0, _, _, _, _, _, _, _ => none
  | k + 1, x0, x2, x3, x10, x11, x130000, x130001 => if x10 > 0 then ((wide_Wide_Right.f x130000 x130001 x10).bind fun bt135 => ((round_split.f x130000 x130001 x10 bt135.2.2).bind fun bt139 => (if bt139.1 = true then (if bt139.2 = true then ((wide_Wide_Add.f bt135.1 bt135.2.1 0 1).bind fun bt141 => (round_Round.j2 k x0 x2 x10 x11 true bt141.1 bt141.2.1)) else (if x3 = true then ((wide_Wide_Add.f bt135.1 bt135.2.1 0 1).bind fun bt144 => (round_Round.j2 k x0 x2 x10 x11 true bt144.1 bt144.2.1)) else (if (Go.bits .and .u64 bt135.2.1 1) = 1 then ((wide_Wide_Add.f bt135.1 bt135.2.1 0 1).bind fun bt147 => (round_Round.j2 k x0 x2 x10 x11 true bt147.1 bt147.2.1)) else (round_Round.j2 k x0 x2 x10 x11 true bt135.1 bt135.2.1)))) else (if bt139.2 = true then (round_Round.j2 k x0 x2 x10 x11 true bt135.1 bt135.2.1) else (round_Round.j2 k x0 x2 x10 x11 x3 bt135.1 bt135.2.1))))) else (if x10 < 0 then (round_Round.j1 k x0 x2 x10 x11 x3 (!x3) x130000 x130001) else (round_Round.j1 k x0 x2 x10 x11 x3 false x130000 x130001))
def round_Round.j2 : Nat → Bool → Int → Int → Bool → Bool → Int → Int → Option (Int × Int)
  | 0, _, _, _, _, _, _, _ => none
  | k + 1, x0, x2, x10, x11, x12, x130000, x130001 => if x130001 = 9007199254740992 then (round_Round.j3 k x0 (wrap64 ((wrap64 (x2 + x10)) + 1)) x11 x12 (x130001 / 2)) else (round_Round.j3 k x0 (wrap64 (x2 + x10)) x11 x12 x130001)
def round_Round.j3 : Nat → Bool → Int → Bool → Bool → Int → Option (Int × Int)
  | 0, _, _, _, _, _ => none
  | k + 1, x0, x2, x11, x12, x16 => if x12 = true then (if x11 = true then (round_Round.j4 k x0 x2 x16 (Go.bits .or .u8 (Go.bits .or .u8 0 1) 2)) else (round_Round.j4 k x0 x2 x16 (Go.bits .or .u8 0 1))) else (round_Round.j4 k x0 x2 x16 0)
def round_Round.j4 : Nat → Bool → Int → Int → Int → Option (Int × Int)
  | 0, _, _, _, _ => none
  | k + 1, x0, x2, x16, x17 => if x16 < 4503599627370496 then ((word_Make.f x0 0 x16).bind fun t154 => (some (t154, x17))) else (if (wrap64 (x2 + 1075)) ≥ 2047 then ((word_Make.f x0 2047 0).bind fun t155 => (some (t155, Go.bits .or .u8 (Go.bits .or .u8 x17 4) 1))) else ((word_Make.f x0 (wrap64 (x2 + 1075)) x16).bind fun t156 => (some (t156, x17))))
def round_Round.j1 : Nat → Bool → Int → Int → Bool → Bool → Bool → Int → Int → Option (Int × Int)
  | 0, _, _, _, _, _, _, _, _ => none
  | k + 1, x0, x2, x10, x11, x12, x91, x130000, x130001 => if x91 = true then ((wide_Wide_Left.f x130000 x130001 (wrap64 (-x10))).bind fun bt150 => (round_Round.j2 k x0 x2 x10 x11 x12 bt150.1 bt150.2)) else (if x10 < 0 then ((wide_Wide_Left.f x130000 x130001 (wrap64 (-x10))).bind fun bt152 => (round_Round.j2 k x0 x2 x10 x11 x12 bt152.1 bt152.2)) else (round_Round.j2 k x0 x2 x10 x11 x12 x130000 x130001))
end
def round_Round.f (k : Nat) (a0 : Bool) (a1_0 : Int) (a1_1 : Int) (a2 : Int) (a3 : Bool) : Option (Int × Int) := (wide_Wide_Zero.f a1_0 a1_1).bind fun t130 => (if t130 = true then (if a3 = true then ((word_Make.f a0 0 0).bind fun t131 => (some (t131, 3))) else ((word_Make.f a0 0 0).bind fun t132 => (some (t132, 0)))) else ((wide_Wide_Len.f k a1_0 a1_1).bind fun t133 => ((wide_Wide_Len.f k a1_0 a1_1).bind fun t134 => (if (wrap64 ((mx (-100000) (mn a2 100000)) + (wrap64 (t133 - 53)))) < (-1074) then (round_Round.j0 k a0 (mx (-100000) (mn a2 100000)) a3 ((-1074) - (mx (-100000) (mn a2 100000))) (decide ((wrap64 ((mx (-100000) (mn a2 100000)) + t134)) < (-1021))) a1_0 a1_1) else (round_Round.j0 k a0 (mx (-100000) (mn a2 100000)) a3 (wrap64 (t133 - 53)) (decide ((wrap64 ((mx (-100000) (mn a2 100000)) + t134)) < (-1021))) a1_0 a1_1)))))
theorem round_Round.mono_l : ∀ k, (∀ y0 y1 y2 y3 y4 y5 y6, LeO (round_Round.j0 k y0 y1 y2 y3 y4 y5 y6) (round_Round.j0 (k + 1) y0 y1 y2 y3 y4 y5 y6)) ∧ (∀ y0 y1 y2 y3 y4 y5 y6, LeO (round_Round.j2 k y0 y1 y2 y3 y4 y5 y6) (round_Round.j2 (k + 1) y0 y1 y2 y3 y4 y5 y6)) ∧ (∀ y0 y1 y2 y3 y4, LeO (round_Round.j3 k y0 y1 y2 y3 y4) (round_Round.j3 (k + 1) y0 y1 y2 y3 y4)) ∧ (∀ y0 y1 y2 y3, LeO (round_Round.j4 k y0 y1 y2 y3) (round_Round.j4 (k + 1) y0 y1 y2 y3)) ∧ (∀ y0 y1 y2 y3 y4 y5 y6 y7, LeO (round_Round.j1 k y0 y1 y2 y3 y4 y5 y6 y7) (round_Round.j1 (k + 1) y0 y1 y2 y3 y4 y5 y6 y7))
  | 0 => ⟨fun _ _ _ _ _ _ _ r h => by simp [round_Round.j0] at h, fun _ _ _ _ _ _ _ r h => by simp [round_Round.j2] at h, fun _ _ _ _ _ r h => by simp [round_Round.j3] at h, fun _ _ _ _ r h => by simp [round_Round.j4] at h, fun _ _ _ _ _ _ _ _ r h => by simp [round_Round.j1] at h⟩
  | k + 1 => by
    obtain ⟨ih0, ih1, ih2, ih3, ih4⟩ := round_Round.mono_l k
    refine ⟨?_, ?_, ?_, ?_, ?_⟩
    · intro y0 y1 y2 y3 y4 y5 y6
      unfold round_Round.j0
      repeat' first
      | (with_reducible exact ih0 _ _ _ _ _ _ _)
      | (with_reducible exact ih1 _ _ _ _ _ _ _)
      | (with_reducible exact ih2 _ _ _ _ _)
      | (with_reducible exact ih3 _ _ _ _)
      | (with_reducible exact ih4 _ _ _ _ _ _ _ _)
      | (with_reducible exact wide_Wide_Len.mono _ _ _)
      | (with_reducible exact LeO.refl _)
      | (with_reducible exact LeO.none _)
      | (with_reducible refine LeO.ite ?_ ?_)
      | (with_reducible refine LeO.bind ?_ (fun _ => ?_))
      | exact ih0 _ _ _ _ _ _ _
      | exact ih1 _ _ _ _ _ _ _
      | exact ih2 _ _ _ _ _
      | exact ih3 _ _ _ _
      | exact ih4 _ _ _ _ _ _ _ _
      | exact wide_Wide_Len.mono _ _ _
      | exact LeO.none _
      | refine LeO.ite ?_ ?_
      | refine LeO.bind ?_ (fun _ => ?_)
    · intro y0 y1 y2 y3 y4 y5 y6
      unfold round_Round.j2
      repeat' first
      | (with_reducible exact ih0 _ _ _ _ _ _ _)
      | (with_reducible exact ih1 _ _ _ _ _ _ _)
      | (with_reducible exact ih2 _ _ _ _ _)
      | (with_reducible exact ih3 _ _ _ _)
      | (with_reducible exact ih4 _ _ _ _ _ _ _ _)
      | (with_reducible exact wide_Wide_Len.mono _ _ _)
      | (with_reducible exact LeO.refl _)
      | (with_reducible exact LeO.none _)
      | (with_reducible refine LeO.ite ?_ ?_)
      | (with_reducible refine LeO.bind ?_ (fun _ => ?_))
      | exact ih0 _ _ _ _ _ _ _
      | exact ih1 _ _ _ _ _ _ _
      | exact ih2 _ _ _ _ _
      | exact ih3 _ _ _ _
      | exact ih4 _ _ _ _ _ _ _ _
      | exact wide_Wide_Len.mono _ _ _
      | exact LeO.none _
      | refine LeO.ite ?_ ?_
      | refine LeO.bind ?_ (fun _ => ?_)
    · intro y0 y1 y2 y3 y4
      unfold round_Round.j3
      repeat' first
      | (with_reducible exact ih0 _ _ _ _ _ _ _)
      | (with_reducible exact ih1 _ _ _ _ _ _ _)
      | (with_reducible exact ih2 _ _ _ _ _)
      | (with_reducible exact ih3 _ _ _ _)
      | (with_reducible exact ih4 _ _ _ _ _ _ _ _)
      | (with_reducible exact wide_Wide_Len.mono _ _ _)
      | (with_reducible exact LeO.refl _)
      | (with_reducible exact LeO.none _)
      | (with_reducible refine LeO.ite ?_ ?_)
      | (with_reducible refine LeO.bind ?_ (fun _ => ?_))
      | exact ih0 _ _ _ _ _ _ _
      | exact ih1 _ _ _ _ _ _ _
      | exact ih2 _ _ _ _ _
      | exact ih3 _ _ _ _
      | exact ih4 _ _ _ _ _ _ _ _
      | exact wide_Wide_Len.mono _ _ _
      | exact LeO.none _
      | refine LeO.ite ?_ ?_
      | refine LeO.bind ?_ (fun _ => ?_)
    · intro y0 y1 y2 y3
      unfold round_Round.j4
      repeat' first
      | (with_reducible exact ih0 _ _ _ _ _ _ _)
      | (with_reducible exact ih1 _ _ _ _ _ _ _)
      | (with_reducible exact ih2 _ _ _ _ _)
      | (with_reducible exact ih3 _ _ _ _)
      | (with_reducible exact ih4 _ _ _ _ _ _ _ _)
      | (with_reducible exact wide_Wide_Len.mono _ _ _)
      | (with_reducible exact LeO.refl _)
      | (with_reducible exact LeO.none _)
      | (with_reducible refine LeO.ite ?_ ?_)
      | (with_reducible refine LeO.bind ?_ (fun _ => ?_))
      | exact ih0 _ _ _ _ _ _ _
      | exact ih1 _ _ _ _ _ _ _
      | exact ih2 _ _ _ _ _
      | exact ih3 _ _ _ _
      | exact ih4 _ _ _ _ _ _ _ _
      | exact wide_Wide_Len.mono _ _ _
      | exact LeO.none _
      | refine LeO.ite ?_ ?_
      | refine LeO.bind ?_ (fun _ => ?_)
    · intro y0 y1 y2 y3 y4 y5 y6 y7
      unfold round_Round.j1
      repeat' first
      | (with_reducible exact ih0 _ _ _ _ _ _ _)
      | (with_reducible exact ih1 _ _ _ _ _ _ _)
      | (with_reducible exact ih2 _ _ _ _ _)
      | (with_reducible exact ih3 _ _ _ _)
      | (with_reducible exact ih4 _ _ _ _ _ _ _ _)
      | (with_reducible exact wide_Wide_Len.mono _ _ _)
      | (with_reducible exact LeO.refl _)
      | (with_reducible exact LeO.none _)
      | (with_reducible refine LeO.ite ?_ ?_)
      | (with_reducible refine LeO.bind ?_ (fun _ => ?_))
      | exact ih0 _ _ _ _ _ _ _
      | exact ih1 _ _ _ _ _ _ _
      | exact ih2 _ _ _ _ _
      | exact ih3 _ _ _ _
      | exact ih4 _ _ _ _ _ _ _ _
      | exact wide_Wide_Len.mono _ _ _
      | exact LeO.none _
      | refine LeO.ite ?_ ?_
      | refine LeO.bind ?_ (fun _ => ?_)
theorem round_Round.mono : ∀ a0 a1 a2 a3 a4 k, LeO (round_Round.f k a0 a1 a2 a3 a4) (round_Round.f (k + 1) a0 a1 a2 a3 a4) := by
  intro a0 a1 a2 a3 a4 k
  obtain ⟨ih0, ih1, ih2, ih3, ih4⟩ := round_Round.mono_l k
  unfold round_Round.f
  repeat' first
      | (with_reducible exact ih0 _ _ _ _ _ _ _)
      | (with_reducible exact ih1 _ _ _ _ _ _ _)
      | (with_reducible exact ih2 _ _ _ _ _)
      | (with_reducible exact ih3 _ _ _ _)
      | (with_reducible exact ih4 _ _ _ _ _ _ _ _)
      | (with_reducible exact wide_Wide_Len.mono _ _ _)
      | (with_reducible exact LeO.refl _)
      | (with_reducible exact LeO.none _)
      | (with_reducible refine LeO.ite ?_ ?_)
      | (with_reducible refine LeO.bind ?_ (fun _ => ?_))
      | exact ih0 _ _ _ _ _ _ _
      | exact ih1 _ _ _ _ _ _ _
      | exact ih2 _ _ _ _ _
      | exact ih3 _ _ _ _
      | exact ih4 _ _ _ _ _ _ _ _
      | exact wide_Wide_Len.mono _ _ _
      | exact LeO.none _
      | refine LeO.ite ?_ ?_
      | refine LeO.bind ?_ (fun _ => ?_)
set_option maxHeartbeats 8000000 in
set_option maxRecDepth 100000 in
theorem round_Round.calls (k : Nat) (a0 : Bool) (a1_0 : Int) (a1_1 : Int) (a2 : Int) (a3 : Bool) (r1 : Int) (r2 : Int) (w : World) (h : round_Round.f k a0 a1_0 a1_1 a2 a3 = some (r1, r2)) :
    Calls Try.prog 31 #[.bool a0, .agg #[.int .u64 a1_0, .int .u64 a1_1], .int .i64 a2, .bool a3] w fun e w' => e = .returned (.tuple #[.int .u64 r1, .int .u8 r2]) ∧ Below w.heap.size w w' := by
  have hu42 := Try.underlying42
  have HB := Aside0.mk (Below.refl w.heap.size w)
  have H : ((wide_Wide_Zero.f a1_0 a1_1).bind fun t130 => (if t130 = true then (if a3 = true then ((word_Make.f a0 0 0).bind fun t131 => (some (t131, 3))) else ((word_Make.f a0 0 0).bind fun t132 => (some (t132, 0)))) else ((wide_Wide_Len.f k a1_0 a1_1).bind fun t133 => ((wide_Wide_Len.f k a1_0 a1_1).bind fun t134 => (if (wrap64 ((mx (-100000) (mn a2 100000)) + (wrap64 (t133 - 53)))) < (-1074) then (round_Round.j0 k a0 (mx (-100000) (mn a2 100000)) a3 ((-1074) - (mx (-100000) (mn a2 100000))) (decide ((wrap64 ((mx (-100000) (mn a2 100000)) + t134)) < (-1021))) a1_0 a1_1) else (round_Round.j0 k a0 (mx (-100000) (mn a2 100000)) a3 (wrap64 (t133 - 53)) (decide ((wrap64 ((mx (-100000) (mn a2 100000)) + t134)) < (-1021))) a1_0 a1_1)))))) = some (r1, r2) := h
  clear h
  obtain ⟨ji5, hji5⟩ : ∃ j_ : Int, (mn a2 100000) = j_ := ⟨_, rfl⟩
  replace H : ((wide_Wide_Zero.f a1_0 a1_1).bind fun t130 => (if t130 = true then (if a3 = true then ((word_Make.f a0 0 0).bind fun t131 => (some (t131, 3))) else ((word_Make.f a0 0 0).bind fun t132 => (some (t132, 0)))) else ((wide_Wide_Len.f k a1_0 a1_1).bind fun t133 => ((wide_Wide_Len.f k a1_0 a1_1).bind fun t134 => (if (wrap64 ((mx (-100000) (ji5)) + (wrap64 (t133 - 53)))) < (-1074) then (round_Round.j0 k a0 (mx (-100000) (ji5)) a3 ((-1074) - (mx (-100000) (ji5))) (decide ((wrap64 ((mx (-100000) (ji5)) + t134)) < (-1021))) a1_0 a1_1) else (round_Round.j0 k a0 (mx (-100000) (ji5)) a3 (wrap64 (t133 - 53)) (decide ((wrap64 ((mx (-100000) (ji5)) + t134)) < (-1021))) a1_0 a1_1)))))) = some (r1, r2) := by first | (rw [hji5] at H; exact H) | (simp only [hji5] at H ⊢; exact H)
  (try (have hji5h : ji5 ≤ 100000 := by (rw [← hji5]; unfold mn; (repeat' split) <;> omega)))
  (try (have hji5g : ji5 ≤ 64 := by omega))
  have hji5_ : (if 100000 < a2 then 100000 else a2) = ji5 := hji5
  obtain ⟨ji6, hji6⟩ : ∃ j_ : Int, (mx (-100000) (ji5)) = j_ := ⟨_, rfl⟩
  replace H : ((wide_Wide_Zero.f a1_0 a1_1).bind fun t130 => (if t130 = true then (if a3 = true then ((word_Make.f a0 0 0).bind fun t131 => (some (t131, 3))) else ((word_Make.f a0 0 0).bind fun t132 => (some (t132, 0)))) else ((wide_Wide_Len.f k a1_0 a1_1).bind fun t133 => ((wide_Wide_Len.f k a1_0 a1_1).bind fun t134 => (if (wrap64 ((ji6) + (wrap64 (t133 - 53)))) < (-1074) then (round_Round.j0 k a0 ji6 a3 ((-1074) - (ji6)) (decide ((wrap64 ((ji6) + t134)) < (-1021))) a1_0 a1_1) else (round_Round.j0 k a0 ji6 a3 (wrap64 (t133 - 53)) (decide ((wrap64 ((ji6) + t134)) < (-1021))) a1_0 a1_1)))))) = some (r1, r2) := by first | (rw [hji6] at H; exact H) | (simp only [hji6] at H ⊢; exact H)
  have hji6_ : (if (-100000) < (ji5) then (ji5) else (-100000)) = ji6 := hji6
  replace H := Option.bind_eq_some_iff.mp H
  obtain ⟨t130, A70, H⟩ := H
  replace H : (if t130 = true then (if a3 = true then ((word_Make.f a0 0 0).bind fun t131 => (some (t131, 3))) else ((word_Make.f a0 0 0).bind fun t132 => (some (t132, 0)))) else ((wide_Wide_Len.f k a1_0 a1_1).bind fun t133 => ((wide_Wide_Len.f k a1_0 a1_1).bind fun t134 => (if (wrap64 ((ji6) + (wrap64 (t133 - 53)))) < (-1074) then (round_Round.j0 k a0 ji6 a3 ((-1074) - (ji6)) (decide ((wrap64 ((ji6) + t134)) < (-1021))) a1_0 a1_1) else (round_Round.j0 k a0 ji6 a3 (wrap64 (t133 - 53)) (decide ((wrap64 ((ji6) + t134)) < (-1021))) a1_0 a1_1))))) = some (r1, r2) := H
  have A7 := Aside0.mk A70
  clear A70
  by_cases c8 : t130 = true
  · subst c8
    have H1 : (if a3 = true then ((word_Make.f a0 0 0).bind fun t131 => (some (t131, 3))) else ((word_Make.f a0 0 0).bind fun t132 => (some (t132, 0)))) = some (r1, r2) := by rw [if_pos rfl] at H; exact H
    clear H
    have H := H1
    clear H1
    by_cases c9 : a3 = true
    · subst c9
      have H1 : ((word_Make.f a0 0 0).bind fun t131 => (some (t131, 3))) = some (r1, r2) := by rw [if_pos rfl] at H; exact H
      clear H
      have H := H1
      clear H1
      replace H := Option.bind_eq_some_iff.mp H
      obtain ⟨t131, A100, H⟩ := H
      replace H : (some (t131, 3)) = some (r1, r2) := H
      have A10 := Aside0.mk A100
      clear A100
      simp only [Option.some.injEq, Prod.mk.injEq] at H
      obtain ⟨rfl, rfl⟩ := H
      go_enter Try.func31, Try.ntmps31
      go_wp2_with (first | ((with_reducible refine gate_dst (N := 5) rfl ?_); refine box_event ?hg (N := 5) ?hd (cs := #[.int .u64 a1_0, .int .u64 a1_1]) (t := 42) ?hr ?_; (case hd => rfl); (case hg => rfl); (case hr => first | (go_simp; done) | (go_simp; rfl)); intro gb129 hg w11 hbox hb; have n0_ := Aside0.mk (below_step (by repeat (first | (with_reducible first | exact HB.out | apply below_alloc | apply pw_below_drewN | apply below_drew1) | exact HB.out)) hb); have n1_ := Aside0.mk (hbox); have n2_ := Aside0.mk ((by rw [hg]; exact (below_size (by repeat (first | (with_reducible first | exact HB.out | apply below_alloc | apply pw_below_drewN | apply below_drew1) | exact HB.out))) : w.heap.size ≤ gb129)); have n3_ := Aside0.mk ((by rw [hg]; exact (below_size (by repeat (first | (with_reducible first | exact HB.out | apply below_alloc | apply pw_below_drewN | apply below_drew1) | exact HB.out))) : w.heap.size ≤ gb129)); clear HB; have HB := n0_; have BK129 := n1_; have GW129 := n2_; have GE129 := n3_; clear n0_ n1_ n2_ n3_; clear hb hbox hg; have hcz12_0 : w11.cell? ⟨gb129, 0, none⟩ = some (.int .u64 a1_0) := (blk_cell BK129.out 0).trans rfl; have hcz12_1 : w11.cell? ⟨gb129, 1, none⟩ = some (.int .u64 a1_1) := (blk_cell BK129.out 1).trans rfl; have hfz12_0 := blk_frozen BK129.out 0; have hfz12_1 := blk_frozen BK129.out 1) | ((with_reducible refine gate_callee (f := 32) rfl ?_); refine goesL_ (some 22) rfl rfl Try.func32 (by kernel_rfl) rfl #[.agg #[.int .u64 a1_0, .int .u64 a1_1]] rfl (by (try simp only [List.map_toArray, List.map_cons, List.map_nil]); first | done | rfl | (simp only [List.length_drop, List.length_take]; rfl)) ?_; (with_reducible refine (wide_Wide_Zero.calls a1_0 a1_1 true _ A7.out).mono ?_); rintro e w13 ⟨rfl, hb⟩; refine ⟨_, rfl, ?_⟩; have n0_ := Aside0.mk (blk_below (g := gb129) (o := .cells #[.int .u64 a1_0, .int .u64 a1_1] 42 (0, 0)) (by (with_reducible repeat (first | refine blk_drewN ?_ _ | refine blk_drew ?_ | refine blk_alloc ?_ _)); exact BK129.out) hb); have n1_ := Aside0.mk (below_step (by repeat (first | (with_reducible first | exact HB.out | apply below_alloc | apply pw_below_drewN | apply below_drew1 | refine below_set ?_ GE129.out) | exact HB.out)) hb); clear BK129; clear HB; have BK129 := n0_; have HB := n1_; clear n0_ n1_; (try clear hb); (try clear hb2); (try clear hk); (try clear hi)) | ((with_reducible refine gate_callee (f := 54) rfl ?_); refine goesL_ (some 28) rfl rfl Try.func54 (by kernel_rfl) rfl #[.bool a0, .int .i64 0, .int .u64 0] rfl (by (try simp only [List.map_toArray, List.map_cons, List.map_nil]); first | done | rfl | (simp only [List.length_drop, List.length_take]; rfl)) ?_; (with_reducible refine (word_Make.calls a0 0 0 t131 _ A10.out).mono ?_); rintro e w' ⟨rfl, ⟨nd, rfl⟩⟩; refine ⟨_, rfl, ?_⟩))
      go_ret2
      exact ⟨by first | rfl | (simp [errW_none, errW_some] <;> rfl) | (simp only [← hji5, ← hji6]; first | rfl | (simp [errW_none, errW_some] <;> rfl)) | (simp [*, errW_none, errW_some] <;> rfl), by repeat (first | (with_reducible first | exact HB.out | apply below_alloc | apply pw_below_drewN | apply below_drew1 | refine below_set ?_ GE129.out) | exact HB.out)⟩
    · replace c9 := Bool.eq_false_iff.mpr c9
      subst c9
      have H1 : ((word_Make.f a0 0 0).bind fun t132 => (some (t132, 0))) = some (r1, r2) := by rw [if_neg (show ¬ (false = true) by decide)] at H; exact H
      clear H
      have H := H1
      clear H1
      replace H := Option.bind_eq_some_iff.mp H
      obtain ⟨t132, A140, H⟩ := H
      replace H : (some (t132, 0)) = some (r1, r2) := H
      have A14 := Aside0.mk A140
      clear A140
      simp only [Option.some.injEq, Prod.mk.injEq] at H
      obtain ⟨rfl, rfl⟩ := H
      go_enter Try.func31, Try.ntmps31
      go_wp2_with (first | ((with_reducible refine gate_dst (N := 5) rfl ?_); refine box_event ?hg (N := 5) ?hd (cs := #[.int .u64 a1_0, .int .u64 a1_1]) (t := 42) ?hr ?_; (case hd => rfl); (case hg => rfl); (case hr => first | (go_simp; done) | (go_simp; rfl)); intro gb129 hg w15 hbox hb; have n0_ := Aside0.mk (below_step (by repeat (first | (with_reducible first | exact HB.out | apply below_alloc | apply pw_below_drewN | apply below_drew1) | exact HB.out)) hb); have n1_ := Aside0.mk (hbox); have n2_ := Aside0.mk ((by rw [hg]; exact (below_size (by repeat (first | (with_reducible first | exact HB.out | apply below_alloc | apply pw_below_drewN | apply below_drew1) | exact HB.out))) : w.heap.size ≤ gb129)); have n3_ := Aside0.mk ((by rw [hg]; exact (below_size (by repeat (first | (with_reducible first | exact HB.out | apply below_alloc | apply pw_below_drewN | apply below_drew1) | exact HB.out))) : w.heap.size ≤ gb129)); clear HB; have HB := n0_; have BK129 := n1_; have GW129 := n2_; have GE129 := n3_; clear n0_ n1_ n2_ n3_; clear hb hbox hg; have hcz16_0 : w15.cell? ⟨gb129, 0, none⟩ = some (.int .u64 a1_0) := (blk_cell BK129.out 0).trans rfl; have hcz16_1 : w15.cell? ⟨gb129, 1, none⟩ = some (.int .u64 a1_1) := (blk_cell BK129.out 1).trans rfl; have hfz16_0 := blk_frozen BK129.out 0; have hfz16_1 := blk_frozen BK129.out 1) | ((with_reducible refine gate_callee (f := 32) rfl ?_); refine goesL_ (some 22) rfl rfl Try.func32 (by kernel_rfl) rfl #[.agg #[.int .u64 a1_0, .int .u64 a1_1]] rfl (by (try simp only [List.map_toArray, List.map_cons, List.map_nil]); first | done | rfl | (simp only [List.length_drop, List.length_take]; rfl)) ?_; (with_reducible refine (wide_Wide_Zero.calls a1_0 a1_1 true _ A7.out).mono ?_); rintro e w17 ⟨rfl, hb⟩; refine ⟨_, rfl, ?_⟩; have n0_ := Aside0.mk (blk_below (g := gb129) (o := .cells #[.int .u64 a1_0, .int .u64 a1_1] 42 (0, 0)) (by (with_reducible repeat (first | refine blk_drewN ?_ _ | refine blk_drew ?_ | refine blk_alloc ?_ _)); exact BK129.out) hb); have n1_ := Aside0.mk (below_step (by repeat (first | (with_reducible first | exact HB.out | apply below_alloc | apply pw_below_drewN | apply below_drew1 | refine below_set ?_ GE129.out) | exact HB.out)) hb); clear BK129; clear HB; have BK129 := n0_; have HB := n1_; clear n0_ n1_; (try clear hb); (try clear hb2); (try clear hk); (try clear hi)) | ((with_reducible refine gate_callee (f := 54) rfl ?_); refine goesL_ (some 26) rfl rfl Try.func54 (by kernel_rfl) rfl #[.bool a0, .int .i64 0, .int .u64 0] rfl (by (try simp only [List.map_toArray, List.map_cons, List.map_nil]); first | done | rfl | (simp only [List.length_drop, List.length_take]; rfl)) ?_; (with_reducible refine (word_Make.calls a0 0 0 t132 _ A14.out).mono ?_); rintro e w' ⟨rfl, ⟨nd, rfl⟩⟩; refine ⟨_, rfl, ?_⟩))
      go_ret2
      exact ⟨by first | rfl | (simp [errW_none, errW_some] <;> rfl) | (simp only [← hji5, ← hji6]; first | rfl | (simp [errW_none, errW_some] <;> rfl)) | (simp [*, errW_none, errW_some] <;> rfl), by repeat (first | (with_reducible first | exact HB.out | apply below_alloc | apply pw_below_drewN | apply below_drew1 | refine below_set ?_ GE129.out) | exact HB.out)⟩
  · replace c8 := Bool.eq_false_iff.mpr c8
    subst c8
    have H1 : ((wide_Wide_Len.f k a1_0 a1_1).bind fun t133 => ((wide_Wide_Len.f k a1_0 a1_1).bind fun t134 => (if (wrap64 ((ji6) + (wrap64 (t133 - 53)))) < (-1074) then (round_Round.j0 k a0 ji6 a3 ((-1074) - (ji6)) (decide ((wrap64 ((ji6) + t134)) < (-1021))) a1_0 a1_1) else (round_Round.j0 k a0 ji6 a3 (wrap64 (t133 - 53)) (decide ((wrap64 ((ji6) + t134)) < (-1021))) a1_0 a1_1)))) = some (r1, r2) := by rw [if_neg (show ¬ (false = true) by decide)] at H; exact H
    clear H
    have H := H1
    clear H1
    replace H := Option.bind_eq_some_iff.mp H
    obtain ⟨t133, A180, H⟩ := H
    replace H : ((wide_Wide_Len.f k a1_0 a1_1).bind fun t134 => (if (wrap64 ((ji6) + (wrap64 (t133 - 53)))) < (-1074) then (round_Round.j0 k a0 ji6 a3 ((-1074) - (ji6)) (decide ((wrap64 ((ji6) + t134)) < (-1021))) a1_0 a1_1) else (round_Round.j0 k a0 ji6 a3 (wrap64 (t133 - 53)) (decide ((wrap64 ((ji6) + t134)) < (-1021))) a1_0 a1_1))) = some (r1, r2) := H
    have A18 := Aside0.mk A180
    clear A180
    replace H := Option.bind_eq_some_iff.mp H
    obtain ⟨t134, A190, H⟩ := H
    replace H : (if (wrap64 ((ji6) + (wrap64 (t133 - 53)))) < (-1074) then (round_Round.j0 k a0 ji6 a3 ((-1074) - (ji6)) (decide ((wrap64 ((ji6) + t134)) < (-1021))) a1_0 a1_1) else (round_Round.j0 k a0 ji6 a3 (wrap64 (t133 - 53)) (decide ((wrap64 ((ji6) + t134)) < (-1021))) a1_0 a1_1)) = some (r1, r2) := H
    have A19 := Aside0.mk A190
    clear A190
    have HC20 := Aside0.mk H
    clear H
    go_enter Try.func31, Try.ntmps31
    go_upto_if 40 with (first | ((with_reducible refine gate_dst (N := 5) rfl ?_); refine box_event ?hg (N := 5) ?hd (cs := #[.int .u64 a1_0, .int .u64 a1_1]) (t := 42) ?hr ?_; (case hd => rfl); (case hg => rfl); (case hr => first | (go_simp; done) | (go_simp; rfl)); intro gb129 hg w21 hbox hb; have n0_ := Aside0.mk (below_step (by repeat (first | (with_reducible first | exact HB.out | apply below_alloc | apply pw_below_drewN | apply below_drew1) | exact HB.out)) hb); have n1_ := Aside0.mk (hbox); have n2_ := Aside0.mk ((by rw [hg]; exact (below_size (by repeat (first | (with_reducible first | exact HB.out | apply below_alloc | apply pw_below_drewN | apply below_drew1) | exact HB.out))) : w.heap.size ≤ gb129)); have n3_ := Aside0.mk ((by rw [hg]; exact (below_size (by repeat (first | (with_reducible first | exact HB.out | apply below_alloc | apply pw_below_drewN | apply below_drew1) | exact HB.out))) : w.heap.size ≤ gb129)); clear HB; have HB := n0_; have BK129 := n1_; have GW129 := n2_; have GE129 := n3_; clear n0_ n1_ n2_ n3_; clear hb hbox hg; have hcz22_0 : w21.cell? ⟨gb129, 0, none⟩ = some (.int .u64 a1_0) := (blk_cell BK129.out 0).trans rfl; have hcz22_1 : w21.cell? ⟨gb129, 1, none⟩ = some (.int .u64 a1_1) := (blk_cell BK129.out 1).trans rfl; have hfz22_0 := blk_frozen BK129.out 0; have hfz22_1 := blk_frozen BK129.out 1) | ((with_reducible refine gate_callee (f := 32) rfl ?_); refine goesL_ (some 22) rfl rfl Try.func32 (by kernel_rfl) rfl #[.agg #[.int .u64 a1_0, .int .u64 a1_1]] rfl (by (try simp only [List.map_toArray, List.map_cons, List.map_nil]); first | done | rfl | (simp only [List.length_drop, List.length_take]; rfl)) ?_; (with_reducible refine (wide_Wide_Zero.calls a1_0 a1_1 false _ A7.out).mono ?_); rintro e w23 ⟨rfl, hb⟩; refine ⟨_, rfl, ?_⟩; have n0_ := Aside0.mk (blk_below (g := gb129) (o := .cells #[.int .u64 a1_0, .int .u64 a1_1] 42 (0, 0)) (by (with_reducible repeat (first | refine blk_drewN ?_ _ | refine blk_drew ?_ | refine blk_alloc ?_ _)); exact BK129.out) hb); have n1_ := Aside0.mk (below_step (by repeat (first | (with_reducible first | exact HB.out | apply below_alloc | apply pw_below_drewN | apply below_drew1 | refine below_set ?_ GE129.out) | exact HB.out)) hb); clear BK129; clear HB; have BK129 := n0_; have HB := n1_; clear n0_ n1_; (try clear hb); (try clear hb2); (try clear hk); (try clear hi); have hcz24_0 : w23.cell? ⟨gb129, 0, none⟩ = some (.int .u64 a1_0) := (blk_cell BK129.out 0).trans rfl; have hcz24_1 : w23.cell? ⟨gb129, 1, none⟩ = some (.int .u64 a1_1) := (blk_cell BK129.out 1).trans rfl; have hfz24_0 := blk_frozen BK129.out 0; have hfz24_1 := blk_frozen BK129.out 1) | ((with_reducible refine gate_callee (f := 55) rfl ?_); refine goesL_ (some 30) rfl rfl Try.func55 (by kernel_rfl) rfl #[.agg #[.int .u64 a1_0, .int .u64 a1_1]] rfl (by (try simp only [List.map_toArray, List.map_cons, List.map_nil]); first | done | rfl | (simp only [List.length_drop, List.length_take]; rfl)) ?_; (with_reducible refine (wide_Wide_Len.calls k a1_0 a1_1 t133 _ A18.out).mono ?_); rintro e w25 ⟨rfl, hb⟩; refine ⟨_, rfl, ?_⟩; have n0_ := Aside0.mk (blk_below (g := gb129) (o := .cells #[.int .u64 a1_0, .int .u64 a1_1] 42 (0, 0)) (by (with_reducible repeat (first | refine blk_drewN ?_ _ | refine blk_drew ?_ | refine blk_alloc ?_ _)); exact BK129.out) hb); have n1_ := Aside0.mk (below_step (by repeat (first | (with_reducible first | exact HB.out | apply below_alloc | apply pw_below_drewN | apply below_drew1 | refine below_set ?_ GE129.out) | exact HB.out)) hb); clear BK129; clear HB; have BK129 := n0_; have HB := n1_; clear n0_ n1_; (try clear hb); (try clear hb2); (try clear hk); (try clear hi); have hcz26_0 : w25.cell? ⟨gb129, 0, none⟩ = some (.int .u64 a1_0) := (blk_cell BK129.out 0).trans rfl; have hcz26_1 : w25.cell? ⟨gb129, 1, none⟩ = some (.int .u64 a1_1) := (blk_cell BK129.out 1).trans rfl; have hfz26_0 := blk_frozen BK129.out 0; have hfz26_1 := blk_frozen BK129.out 1) | ((with_reducible refine gate_callee (f := 55) rfl ?_); refine goesL_ (some 34) rfl rfl Try.func55 (by kernel_rfl) rfl #[.agg #[.int .u64 a1_0, .int .u64 a1_1]] rfl (by (try simp only [List.map_toArray, List.map_cons, List.map_nil]); first | done | rfl | (simp only [List.length_drop, List.length_take]; rfl)) ?_; (with_reducible refine (wide_Wide_Len.calls k a1_0 a1_1 t134 _ A19.out).mono ?_); rintro e w27 ⟨rfl, hb⟩; refine ⟨_, rfl, ?_⟩; have n0_ := Aside0.mk (blk_below (g := gb129) (o := .cells #[.int .u64 a1_0, .int .u64 a1_1] 42 (0, 0)) (by (with_reducible repeat (first | refine blk_drewN ?_ _ | refine blk_drew ?_ | refine blk_alloc ?_ _)); exact BK129.out) hb); have n1_ := Aside0.mk (below_step (by repeat (first | (with_reducible first | exact HB.out | apply below_alloc | apply pw_below_drewN | apply below_drew1 | refine below_set ?_ GE129.out) | exact HB.out)) hb); clear BK129; clear HB; have BK129 := n0_; have HB := n1_; clear n0_ n1_; (try clear hb); (try clear hb2); (try clear hk); (try clear hi)))
    (try simp only [Act.put, List.setIfInBounds_toArray, List.set_cons_zero, List.set_cons_succ])
    go_cut [10] (fun v10 wc => ∃ (kq : Nat) (x10_19 : Int), v10 = .int .i64 x10_19 ∧ Aside0 (round_Round.j0 kq a0 ji6 a3 x10_19 (decide ((wrap64 ((ji6) + t134)) < (-1021))) a1_0 a1_1 = some (r1, r2)) ∧ Aside0 (kq ≤ k) ∧ Aside0 (wc.heap[gb129]? = some (.cells #[.int .u64 a1_0, .int .u64 a1_1] 42 (0, 0))) ∧ Aside0 (Below w.heap.size w wc))
    case first =>
      have H := HC20.out
      clear HC20
      by_cases c28 : (wrap64 ((ji6) + (wrap64 (t133 - 53)))) < (-1074)
      · rw [if_pos c28] at H
        have c28b0 : decide ((wrap64 ((ji6) + (wrap64 (t133 - 53)))) < (-1074)) = true := decide_eq_true c28
        clear c28
        (first | rw [c28b0] | (simp only [i64_w, i32_w]; rw [c28b0]) | skip)
        have H' := Aside0.mk H
        clear H
        go_wp2
        go_meet
        case rel => exact ⟨_, ((-1074) - (ji6)), (by first | rfl | (simp; done) | (simp only [← hji6] <;> (first | rfl | simp)) | (simp [*]; done)), H', ⟨by first | omega | exact Nat.le_refl _⟩, ⟨by (with_reducible repeat (first | refine blk_drewN ?_ _ | refine blk_drew ?_ | refine blk_alloc ?_ _)); exact BK129.out⟩, ⟨by repeat (first | (with_reducible first | exact HB.out | apply below_alloc | apply pw_below_drewN | apply below_drew1 | refine below_set ?_ GE129.out) | exact HB.out)⟩⟩
      · rw [if_neg c28] at H
        have c28b0 : decide ((wrap64 ((ji6) + (wrap64 (t133 - 53)))) < (-1074)) = false := decide_eq_false c28
        clear c28
        (first | rw [c28b0] | (simp only [i64_w, i32_w]; rw [c28b0]) | skip)
        have H' := Aside0.mk H
        clear H
        go_wp2
        go_meet
        case rel => exact ⟨_, (wrap64 (t133 - 53)), (by first | rfl | (simp; done) | (simp [*]; done)), H', ⟨by first | omega | exact Nat.le_refl _⟩, ⟨by (with_reducible repeat (first | refine blk_drewN ?_ _ | refine blk_drew ?_ | refine blk_alloc ?_ _)); exact BK129.out⟩, ⟨by repeat (first | (with_reducible first | exact HB.out | apply below_alloc | apply pw_below_drewN | apply below_drew1 | refine below_set ?_ GE129.out) | exact HB.out)⟩⟩
    case rest =>
      clear HC20
      try clear c2
      try clear p2
      try clear c3
      try clear c5
      try clear p6
      try clear c8
      try clear c9
      try clear c28
      try clear c28b0
      try clear hcz12_0
      try clear hcz12_1
      try clear hcz16_0
      try clear hcz16_1
      try clear hcz22_0
      try clear hcz22_1
      try clear hcz24_0
      try clear hcz24_1
      try clear hcz26_0
      try clear hcz26_1
      try clear hfz12_0
      try clear hfz12_1
      try clear hfz16_0
      try clear hfz16_1
      try clear hfz22_0
      try clear hfz22_1
      try clear hfz24_0
      try clear hfz24_1
      try clear hfz26_0
      try clear hfz26_1
      obtain ⟨kq, x10_19, rfl, HA, HJ19, BK129, HB⟩ := hcut
      cases kq with
      | zero => exact absurd HA.out (by simp [round_Round.j0])
      | succ kj19 =>
        have H := HA.out
        clear HA
        simp only [round_Round.j0] at H
        have HC29 := Aside0.mk H
        clear H
        go_upto_if 45 with (fail)
        go_cut [12] (fun v12 wc => ∃ (kq : Nat) (x12_28 : Bool) (x130000_28 : Int) (x130001_28 : Int), v12 = .bool x12_28 ∧ Aside0 (round_Round.j2 kq a0 ji6 x10_19 (decide ((wrap64 ((ji6) + t134)) < (-1021))) x12_28 x130000_28 x130001_28 = some (r1, r2)) ∧ Aside0 (kq ≤ kj19) ∧ Aside0 (wc.heap[gb129]? = some (.cells #[.int .u64 x130000_28, .int .u64 x130001_28] 42 (0, 0))) ∧ Aside0 (Below w.heap.size w wc))
        case first =>
          have H := HC29.out
          clear HC29
          by_cases c30 : x10_19 > 0
          · rw [if_pos c30] at H
            have c30b0 : decide (0 < x10_19) = true := decide_eq_true c30
            clear c30
            (first | rw [c30b0] | (simp only [i64_w, i32_w]; rw [c30b0]) | skip)
            replace H := Option.bind_eq_some_iff.mp H
            obtain ⟨⟨t135, t136, t137⟩, A310, H⟩ := H
            replace H : ((round_split.f a1_0 a1_1 x10_19 t137).bind fun bt139 => (if bt139.1 = true then (if bt139.2 = true then ((wide_Wide_Add.f t135 t136 0 1).bind fun bt141 => (round_Round.j2 kj19 a0 ji6 x10_19 (decide ((wrap64 ((ji6) + t134)) < (-1021))) true bt141.1 bt141.2.1)) else (if a3 = true then ((wide_Wide_Add.f t135 t136 0 1).bind fun bt144 => (round_Round.j2 kj19 a0 ji6 x10_19 (decide ((wrap64 ((ji6) + t134)) < (-1021))) true bt144.1 bt144.2.1)) else (if (Go.bits .and .u64 t136 1) = 1 then ((wide_Wide_Add.f t135 t136 0 1).bind fun bt147 => (round_Round.j2 kj19 a0 ji6 x10_19 (decide ((wrap64 ((ji6) + t134)) < (-1021))) true bt147.1 bt147.2.1)) else (round_Round.j2 kj19 a0 ji6 x10_19 (decide ((wrap64 ((ji6) + t134)) < (-1021))) true t135 t136)))) else (if bt139.2 = true then (round_Round.j2 kj19 a0 ji6 x10_19 (decide ((wrap64 ((ji6) + t134)) < (-1021))) true t135 t136) else (round_Round.j2 kj19 a0 ji6 x10_19 (decide ((wrap64 ((ji6) + t134)) < (-1021))) a3 t135 t136)))) = some (r1, r2) := H
            have A31 := Aside0.mk A310
            clear A310
            replace H := Option.bind_eq_some_iff.mp H
            obtain ⟨⟨t139, t140⟩, A320, H⟩ := H
            replace H : (if t139 = true then (if t140 = true then ((wide_Wide_Add.f t135 t136 0 1).bind fun bt141 => (round_Round.j2 kj19 a0 ji6 x10_19 (decide ((wrap64 ((ji6) + t134)) < (-1021))) true bt141.1 bt141.2.1)) else (if a3 = true then ((wide_Wide_Add.f t135 t136 0 1).bind fun bt144 => (round_Round.j2 kj19 a0 ji6 x10_19 (decide ((wrap64 ((ji6) + t134)) < (-1021))) true bt144.1 bt144.2.1)) else (if (Go.bits .and .u64 t136 1) = 1 then ((wide_Wide_Add.f t135 t136 0 1).bind fun bt147 => (round_Round.j2 kj19 a0 ji6 x10_19 (decide ((wrap64 ((ji6) + t134)) < (-1021))) true bt147.1 bt147.2.1)) else (round_Round.j2 kj19 a0 ji6 x10_19 (decide ((wrap64 ((ji6) + t134)) < (-1021))) true t135 t136)))) else (if t140 = true then (round_Round.j2 kj19 a0 ji6 x10_19 (decide ((wrap64 ((ji6) + t134)) < (-1021))) true t135 t136) else (round_Round.j2 kj19 a0 ji6 x10_19 (decide ((wrap64 ((ji6) + t134)) < (-1021))) a3 t135 t136))) = some (r1, r2) := H
            have A32 := Aside0.mk A320
            clear A320
            by_cases c33 : t139 = true
            · subst c33
              have H1 : (if t140 = true then ((wide_Wide_Add.f t135 t136 0 1).bind fun bt141 => (round_Round.j2 kj19 a0 ji6 x10_19 (decide ((wrap64 ((ji6) + t134)) < (-1021))) true bt141.1 bt141.2.1)) else (if a3 = true then ((wide_Wide_Add.f t135 t136 0 1).bind fun bt144 => (round_Round.j2 kj19 a0 ji6 x10_19 (decide ((wrap64 ((ji6) + t134)) < (-1021))) true bt144.1 bt144.2.1)) else (if (Go.bits .and .u64 t136 1) = 1 then ((wide_Wide_Add.f t135 t136 0 1).bind fun bt147 => (round_Round.j2 kj19 a0 ji6 x10_19 (decide ((wrap64 ((ji6) + t134)) < (-1021))) true bt147.1 bt147.2.1)) else (round_Round.j2 kj19 a0 ji6 x10_19 (decide ((wrap64 ((ji6) + t134)) < (-1021))) true t135 t136)))) = some (r1, r2) := by rw [if_pos rfl] at H; exact H
              clear H
              have H := H1
              clear H1
              by_cases c34 : t140 = true
              · subst c34
                have H1 : ((wide_Wide_Add.f t135 t136 0 1).bind fun bt141 => (round_Round.j2 kj19 a0 ji6 x10_19 (decide ((wrap64 ((ji6) + t134)) < (-1021))) true bt141.1 bt141.2.1)) = some (r1, r2) := by rw [if_pos rfl] at H; exact H
                clear H
                have H := H1
                clear H1
                replace H := Option.bind_eq_some_iff.mp H
                obtain ⟨⟨t141, t142, t143⟩, A350, H⟩ := H
                replace H : (round_Round.j2 kj19 a0 ji6 x10_19 (decide ((wrap64 ((ji6) + t134)) < (-1021))) true t141 t142) = some (r1, r2) := H
                have A35 := Aside0.mk A350
                clear A350
                have H' := Aside0.mk H
                clear H
                have hcz36_0 : wc.cell? ⟨gb129, 0, none⟩ = some (.int .u64 a1_0) := (blk_cell BK129.out 0).trans rfl
                have hcz36_1 : wc.cell? ⟨gb129, 1, none⟩ = some (.int .u64 a1_1) := (blk_cell BK129.out 1).trans rfl
                have hfz36_0 := blk_frozen BK129.out 0
                have hfz36_1 := blk_frozen BK129.out 1
                go_wp2_with (first | ((with_reducible refine gate_callee (f := 56) rfl ?_); refine goesL_ (some 49) rfl rfl Try.func56 (by kernel_rfl) rfl #[.agg #[.int .u64 a1_0, .int .u64 a1_1], .int .i64 x10_19] rfl (by (try simp only [List.map_toArray, List.map_cons, List.map_nil]); first | done | rfl | (simp only [List.length_drop, List.length_take]; rfl)) ?_; (with_reducible refine (wide_Wide_Right.calls a1_0 a1_1 x10_19 t135 t136 t137 _ A31.out).mono ?_); rintro e w37 ⟨rfl, hb⟩; refine ⟨_, rfl, ?_⟩; have n0_ := Aside0.mk (blk_below (g := gb129) (o := .cells #[.int .u64 a1_0, .int .u64 a1_1] 42 (0, 0)) (by (with_reducible repeat (first | refine blk_drewN ?_ _ | refine blk_drew ?_ | refine blk_alloc ?_ _)); exact BK129.out) hb); have n1_ := Aside0.mk (below_step (by repeat (first | (with_reducible first | exact HB.out | apply below_alloc | apply pw_below_drewN | apply below_drew1 | refine below_set ?_ GE129.out) | exact HB.out)) hb); clear BK129; clear HB; have BK129 := n0_; have HB := n1_; clear n0_ n1_; (try clear hb); (try clear hb2); (try clear hk); (try clear hi)) | ((with_reducible refine gate_dst (N := 14) rfl ?_); refine box_event ?hg (N := 14) ?hd (cs := #[.int .u64 0, .int .u64 0]) (t := 42) ?hr ?_; (case hd => rfl); (case hg => rfl); (case hr => first | (go_simp; done) | (go_simp; rfl)); intro gb138 hg w38 hbox hb; have n0_ := Aside0.mk (blk_below (g := gb129) (o := .cells #[.int .u64 a1_0, .int .u64 a1_1] 42 (0, 0)) (by (with_reducible repeat (first | refine blk_drewN ?_ _ | refine blk_drew ?_ | refine blk_alloc ?_ _)); exact BK129.out) hb); have n1_ := Aside0.mk (below_step (by repeat (first | (with_reducible first | exact HB.out | apply below_alloc | apply pw_below_drewN | apply below_drew1 | refine below_set ?_ GE129.out) | exact HB.out)) hb); have n2_ := Aside0.mk (hbox); have n3_ := Aside0.mk ((by rw [hg]; exact (below_size (by repeat (first | (with_reducible first | exact HB.out | apply below_alloc | apply pw_below_drewN | apply below_drew1 | refine below_set ?_ GE129.out) | exact HB.out))) : w.heap.size ≤ gb138)); have n4_ := Aside0.mk ((by rw [hg]; exact (below_size (by repeat (first | (with_reducible first | exact HB.out | apply below_alloc | apply pw_below_drewN | apply below_drew1 | refine below_set ?_ GE129.out) | exact HB.out))) : w.heap.size ≤ gb138)); have n5_ := Aside0.mk ((by rw [hg]; exact Nat.ne_of_lt (blk_lt (g := gb129) (o := .cells #[.int .u64 a1_0, .int .u64 a1_1] 42 (0, 0)) (by (with_reducible repeat (first | refine blk_drewN ?_ _ | refine blk_drew ?_ | refine blk_alloc ?_ _)); exact BK129.out)) : gb129 ≠ gb138)); have n6_ := Aside0.mk ((by rw [hg]; exact Nat.ne_of_gt (blk_lt (g := gb129) (o := .cells #[.int .u64 a1_0, .int .u64 a1_1] 42 (0, 0)) (by (with_reducible repeat (first | refine blk_drewN ?_ _ | refine blk_drew ?_ | refine blk_alloc ?_ _)); exact BK129.out)) : gb138 ≠ gb129)); clear BK129; clear HB; have BK129 := n0_; have HB := n1_; have BK138 := n2_; have GW138 := n3_; have GE138 := n4_; have NB129_138 := n5_; have NB138_129 := n6_; clear n0_ n1_ n2_ n3_ n4_ n5_ n6_; clear hb hbox hg; have hnb39 := NB138_129.out; have hnc39 := NB129_138.out; have hcz40_0 : w38.cell? ⟨gb138, 0, none⟩ = some (.int .u64 0) := (blk_cell BK138.out 0).trans rfl; have hcz40_1 : w38.cell? ⟨gb138, 1, none⟩ = some (.int .u64 0) := (blk_cell BK138.out 1).trans rfl; have hfz40_0 := blk_frozen BK138.out 0; have hfz40_1 := blk_frozen BK138.out 1; have hcz41_0 : w38.cell? ⟨gb129, 0, none⟩ = some (.int .u64 a1_0) := (blk_cell BK129.out 0).trans rfl; have hcz41_1 : w38.cell? ⟨gb129, 1, none⟩ = some (.int .u64 a1_1) := (blk_cell BK129.out 1).trans rfl; have hfz41_0 := blk_frozen BK129.out 0; have hfz41_1 := blk_frozen BK129.out 1) | ((with_reducible refine gate_callee (f := 57) rfl ?_); refine goesL_ (some 56) rfl rfl Try.func57 (by kernel_rfl) rfl #[.agg #[.int .u64 a1_0, .int .u64 a1_1], .int .i64 x10_19, .bool t137] rfl (by (try simp only [List.map_toArray, List.map_cons, List.map_nil]); first | done | rfl | (simp only [List.length_drop, List.length_take]; rfl)) ?_; (with_reducible refine (round_split.calls a1_0 a1_1 x10_19 t137 true true _ A32.out).mono ?_); rintro e w42 ⟨rfl, hb⟩; refine ⟨_, rfl, ?_⟩; have n0_ := Aside0.mk (blk_below (g := gb129) (o := .cells #[.int .u64 a1_0, .int .u64 a1_1] 42 (0, 0)) (by (with_reducible repeat (first | refine blk_drewN ?_ _ | refine blk_drew ?_ | refine blk_alloc ?_ _)); refine blk_far ?_ NB129_138.out _; (with_reducible repeat (first | refine blk_drewN ?_ _ | refine blk_drew ?_ | refine blk_alloc ?_ _)); refine blk_far ?_ NB129_138.out _; (with_reducible repeat (first | refine blk_drewN ?_ _ | refine blk_drew ?_ | refine blk_alloc ?_ _)); exact BK129.out) hb); have n1_ := Aside0.mk (blk_below (g := gb138) (o := .cells #[.int .u64 t135, .int .u64 t136] 42 (0, 0)) (by (with_reducible repeat (first | refine blk_drewN ?_ _ | refine blk_drew ?_ | refine blk_alloc ?_ _)); refine blk_put (cs := #[.int .u64 t135, .int .u64 0]) ?_ 1 _ rfl; (with_reducible repeat (first | refine blk_drewN ?_ _ | refine blk_drew ?_ | refine blk_alloc ?_ _)); refine blk_put (cs := #[.int .u64 0, .int .u64 0]) ?_ 0 _ rfl; (with_reducible repeat (first | refine blk_drewN ?_ _ | refine blk_drew ?_ | refine blk_alloc ?_ _)); exact BK138.out) hb); have n2_ := Aside0.mk (below_step (by repeat (first | (with_reducible first | exact HB.out | apply below_alloc | apply pw_below_drewN | apply below_drew1 | refine below_set ?_ GE129.out | refine below_set ?_ GE138.out) | exact HB.out)) hb); clear BK129; clear BK138; clear HB; have BK129 := n0_; have BK138 := n1_; have HB := n2_; clear n0_ n1_ n2_; (try clear hb); (try clear hb2); (try clear hk); (try clear hi); have hcz43_0 : w42.cell? ⟨gb138, 0, none⟩ = some (.int .u64 t135) := (blk_cell BK138.out 0).trans rfl; have hcz43_1 : w42.cell? ⟨gb138, 1, none⟩ = some (.int .u64 t136) := (blk_cell BK138.out 1).trans rfl; have hfz43_0 := blk_frozen BK138.out 0; have hfz43_1 := blk_frozen BK138.out 1; have hcz44_0 : w42.cell? ⟨gb129, 0, none⟩ = some (.int .u64 a1_0) := (blk_cell BK129.out 0).trans rfl; have hcz44_1 : w42.cell? ⟨gb129, 1, none⟩ = some (.int .u64 a1_1) := (blk_cell BK129.out 1).trans rfl; have hfz44_0 := blk_frozen BK129.out 0; have hfz44_1 := blk_frozen BK129.out 1) | ((with_reducible refine gate_callee (f := 58) rfl ?_); refine goesL_ (some 83) rfl rfl Try.func58 (by kernel_rfl) rfl #[.agg #[.int .u64 t135, .int .u64 t136], .agg #[.int .u64 0, .int .u64 1]] rfl (by (try simp only [List.map_toArray, List.map_cons, List.map_nil]); first | done | rfl | (simp only [List.length_drop, List.length_take]; rfl)) ?_; (with_reducible refine (wide_Wide_Add.calls t135 t136 0 1 t141 t142 t143 _ A35.out).mono ?_); rintro e w45 ⟨rfl, hb⟩; refine ⟨_, rfl, ?_⟩; have n0_ := Aside0.mk (blk_below (g := gb129) (o := .cells #[.int .u64 t135, .int .u64 t136] 42 (0, 0)) (by (with_reducible repeat (first | refine blk_drewN ?_ _ | refine blk_drew ?_ | refine blk_alloc ?_ _)); refine blk_put (cs := #[.int .u64 t135, .int .u64 a1_1]) ?_ 1 _ rfl; (with_reducible repeat (first | refine blk_drewN ?_ _ | refine blk_drew ?_ | refine blk_alloc ?_ _)); refine blk_put (cs := #[.int .u64 a1_0, .int .u64 a1_1]) ?_ 0 _ rfl; (with_reducible repeat (first | refine blk_drewN ?_ _ | refine blk_drew ?_ | refine blk_alloc ?_ _)); exact BK129.out) hb); have n1_ := Aside0.mk (blk_below (g := gb138) (o := .cells #[.int .u64 t135, .int .u64 t136] 42 (0, 0)) (by (with_reducible repeat (first | refine blk_drewN ?_ _ | refine blk_drew ?_ | refine blk_alloc ?_ _)); refine blk_far ?_ NB138_129.out _; (with_reducible repeat (first | refine blk_drewN ?_ _ | refine blk_drew ?_ | refine blk_alloc ?_ _)); refine blk_far ?_ NB138_129.out _; (with_reducible repeat (first | refine blk_drewN ?_ _ | refine blk_drew ?_ | refine blk_alloc ?_ _)); exact BK138.out) hb); have n2_ := Aside0.mk (below_step (by repeat (first | (with_reducible first | exact HB.out | apply below_alloc | apply pw_below_drewN | apply below_drew1 | refine below_set ?_ GE129.out | refine below_set ?_ GE138.out) | exact HB.out)) hb); clear BK129; clear BK138; clear HB; have BK129 := n0_; have BK138 := n1_; have HB := n2_; clear n0_ n1_ n2_; (try clear hb); (try clear hb2); (try clear hk); (try clear hi); have hcz46_0 : w45.cell? ⟨gb129, 0, none⟩ = some (.int .u64 t135) := (blk_cell BK129.out 0).trans rfl; have hcz46_1 : w45.cell? ⟨gb129, 1, none⟩ = some (.int .u64 t136) := (blk_cell BK129.out 1).trans rfl; have hfz46_0 := blk_frozen BK129.out 0; have hfz46_1 := blk_frozen BK129.out 1))
                go_meet
                case rel => exact ⟨_, (true), (t141), (t142), (by first | rfl | (simp; done) | (simp [*]; done)), H', ⟨by have := HJ19.out; first | omega | exact Nat.le_refl _⟩, ⟨by (with_reducible repeat (first | refine blk_drewN ?_ _ | refine blk_drew ?_ | refine blk_alloc ?_ _)); refine blk_put (cs := #[.int .u64 t141, .int .u64 t136]) ?_ 1 _ rfl; (with_reducible repeat (first | refine blk_drewN ?_ _ | refine blk_drew ?_ | refine blk_alloc ?_ _)); refine blk_put (cs := #[.int .u64 t135, .int .u64 t136]) ?_ 0 _ rfl; (with_reducible repeat (first | refine blk_drewN ?_ _ | refine blk_drew ?_ | refine blk_alloc ?_ _)); exact BK129.out⟩, ⟨by repeat (first | (with_reducible first | exact HB.out | apply below_alloc | apply pw_below_drewN | apply below_drew1 | refine below_set ?_ GE129.out | refine below_set ?_ GE138.out) | exact HB.out)⟩⟩
              · replace c34 := Bool.eq_false_iff.mpr c34
                subst c34
                have H1 : (if a3 = true then ((wide_Wide_Add.f t135 t136 0 1).bind fun bt144 => (round_Round.j2 kj19 a0 ji6 x10_19 (decide ((wrap64 ((ji6) + t134)) < (-1021))) true bt144.1 bt144.2.1)) else (if (Go.bits .and .u64 t136 1) = 1 then ((wide_Wide_Add.f t135 t136 0 1).bind fun bt147 => (round_Round.j2 kj19 a0 ji6 x10_19 (decide ((wrap64 ((ji6) + t134)) < (-1021))) true bt147.1 bt147.2.1)) else (round_Round.j2 kj19 a0 ji6 x10_19 (decide ((wrap64 ((ji6) + t134)) < (-1021))) true t135 t136))) = some (r1, r2) := by rw [if_neg (show ¬ (false = true) by decide)] at H; exact H
                clear H
                have H := H1
                clear H1
                by_cases c47 : a3 = true
                · subst c47
                  have H1 : ((wide_Wide_Add.f t135 t136 0 1).bind fun bt144 => (round_Round.j2 kj19 a0 ji6 x10_19 (decide ((wrap64 ((ji6) + t134)) < (-1021))) true bt144.1 bt144.2.1)) = some (r1, r2) := by rw [if_pos rfl] at H; exact H
                  clear H
                  have H := H1
                  clear H1
                  replace H := Option.bind_eq_some_iff.mp H
                  obtain ⟨⟨t144, t145, t146⟩, A480, H⟩ := H
                  replace H : (round_Round.j2 kj19 a0 ji6 x10_19 (decide ((wrap64 ((ji6) + t134)) < (-1021))) true t144 t145) = some (r1, r2) := H
                  have A48 := Aside0.mk A480
                  clear A480
                  have H' := Aside0.mk H
                  clear H
                  have hcz49_0 : wc.cell? ⟨gb129, 0, none⟩ = some (.int .u64 a1_0) := (blk_cell BK129.out 0).trans rfl
                  have hcz49_1 : wc.cell? ⟨gb129, 1, none⟩ = some (.int .u64 a1_1) := (blk_cell BK129.out 1).trans rfl
                  have hfz49_0 := blk_frozen BK129.out 0
                  have hfz49_1 := blk_frozen BK129.out 1
                  go_wp2_with (first | ((with_reducible refine gate_callee (f := 56) rfl ?_); refine goesL_ (some 49) rfl rfl Try.func56 (by kernel_rfl) rfl #[.agg #[.int .u64 a1_0, .int .u64 a1_1], .int .i64 x10_19] rfl (by (try simp only [List.map_toArray, List.map_cons, List.map_nil]); first | done | rfl | (simp only [List.length_drop, List.length_take]; rfl)) ?_; (with_reducible refine (wide_Wide_Right.calls a1_0 a1_1 x10_19 t135 t136 t137 _ A31.out).mono ?_); rintro e w50 ⟨rfl, hb⟩; refine ⟨_, rfl, ?_⟩; have n0_ := Aside0.mk (blk_below (g := gb129) (o := .cells #[.int .u64 a1_0, .int .u64 a1_1] 42 (0, 0)) (by (with_reducible repeat (first | refine blk_drewN ?_ _ | refine blk_drew ?_ | refine blk_alloc ?_ _)); exact BK129.out) hb); have n1_ := Aside0.mk (below_step (by repeat (first | (with_reducible first | exact HB.out | apply below_alloc | apply pw_below_drewN | apply below_drew1 | refine below_set ?_ GE129.out) | exact HB.out)) hb); clear BK129; clear HB; have BK129 := n0_; have HB := n1_; clear n0_ n1_; (try clear hb); (try clear hb2); (try clear hk); (try clear hi)) | ((with_reducible refine gate_dst (N := 14) rfl ?_); refine box_event ?hg (N := 14) ?hd (cs := #[.int .u64 0, .int .u64 0]) (t := 42) ?hr ?_; (case hd => rfl); (case hg => rfl); (case hr => first | (go_simp; done) | (go_simp; rfl)); intro gb138 hg w51 hbox hb; have n0_ := Aside0.mk (blk_below (g := gb129) (o := .cells #[.int .u64 a1_0, .int .u64 a1_1] 42 (0, 0)) (by (with_reducible repeat (first | refine blk_drewN ?_ _ | refine blk_drew ?_ | refine blk_alloc ?_ _)); exact BK129.out) hb); have n1_ := Aside0.mk (below_step (by repeat (first | (with_reducible first | exact HB.out | apply below_alloc | apply pw_below_drewN | apply below_drew1 | refine below_set ?_ GE129.out) | exact HB.out)) hb); have n2_ := Aside0.mk (hbox); have n3_ := Aside0.mk ((by rw [hg]; exact (below_size (by repeat (first | (with_reducible first | exact HB.out | apply below_alloc | apply pw_below_drewN | apply below_drew1 | refine below_set ?_ GE129.out) | exact HB.out))) : w.heap.size ≤ gb138)); have n4_ := Aside0.mk ((by rw [hg]; exact (below_size (by repeat (first | (with_reducible first | exact HB.out | apply below_alloc | apply pw_below_drewN | apply below_drew1 | refine below_set ?_ GE129.out) | exact HB.out))) : w.heap.size ≤ gb138)); have n5_ := Aside0.mk ((by rw [hg]; exact Nat.ne_of_lt (blk_lt (g := gb129) (o := .cells #[.int .u64 a1_0, .int .u64 a1_1] 42 (0, 0)) (by (with_reducible repeat (first | refine blk_drewN ?_ _ | refine blk_drew ?_ | refine blk_alloc ?_ _)); exact BK129.out)) : gb129 ≠ gb138)); have n6_ := Aside0.mk ((by rw [hg]; exact Nat.ne_of_gt (blk_lt (g := gb129) (o := .cells #[.int .u64 a1_0, .int .u64 a1_1] 42 (0, 0)) (by (with_reducible repeat (first | refine blk_drewN ?_ _ | refine blk_drew ?_ | refine blk_alloc ?_ _)); exact BK129.out)) : gb138 ≠ gb129)); clear BK129; clear HB; have BK129 := n0_; have HB := n1_; have BK138 := n2_; have GW138 := n3_; have GE138 := n4_; have NB129_138 := n5_; have NB138_129 := n6_; clear n0_ n1_ n2_ n3_ n4_ n5_ n6_; clear hb hbox hg; have hnb52 := NB138_129.out; have hnc52 := NB129_138.out; have hcz53_0 : w51.cell? ⟨gb138, 0, none⟩ = some (.int .u64 0) := (blk_cell BK138.out 0).trans rfl; have hcz53_1 : w51.cell? ⟨gb138, 1, none⟩ = some (.int .u64 0) := (blk_cell BK138.out 1).trans rfl; have hfz53_0 := blk_frozen BK138.out 0; have hfz53_1 := blk_frozen BK138.out 1; have hcz54_0 : w51.cell? ⟨gb129, 0, none⟩ = some (.int .u64 a1_0) := (blk_cell BK129.out 0).trans rfl; have hcz54_1 : w51.cell? ⟨gb129, 1, none⟩ = some (.int .u64 a1_1) := (blk_cell BK129.out 1).trans rfl; have hfz54_0 := blk_frozen BK129.out 0; have hfz54_1 := blk_frozen BK129.out 1) | ((with_reducible refine gate_callee (f := 57) rfl ?_); refine goesL_ (some 56) rfl rfl Try.func57 (by kernel_rfl) rfl #[.agg #[.int .u64 a1_0, .int .u64 a1_1], .int .i64 x10_19, .bool t137] rfl (by (try simp only [List.map_toArray, List.map_cons, List.map_nil]); first | done | rfl | (simp only [List.length_drop, List.length_take]; rfl)) ?_; (with_reducible refine (round_split.calls a1_0 a1_1 x10_19 t137 true false _ A32.out).mono ?_); rintro e w55 ⟨rfl, hb⟩; refine ⟨_, rfl, ?_⟩; have n0_ := Aside0.mk (blk_below (g := gb129) (o := .cells #[.int .u64 a1_0, .int .u64 a1_1] 42 (0, 0)) (by (with_reducible repeat (first | refine blk_drewN ?_ _ | refine blk_drew ?_ | refine blk_alloc ?_ _)); refine blk_far ?_ NB129_138.out _; (with_reducible repeat (first | refine blk_drewN ?_ _ | refine blk_drew ?_ | refine blk_alloc ?_ _)); refine blk_far ?_ NB129_138.out _; (with_reducible repeat (first | refine blk_drewN ?_ _ | refine blk_drew ?_ | refine blk_alloc ?_ _)); exact BK129.out) hb); have n1_ := Aside0.mk (blk_below (g := gb138) (o := .cells #[.int .u64 t135, .int .u64 t136] 42 (0, 0)) (by (with_reducible repeat (first | refine blk_drewN ?_ _ | refine blk_drew ?_ | refine blk_alloc ?_ _)); refine blk_put (cs := #[.int .u64 t135, .int .u64 0]) ?_ 1 _ rfl; (with_reducible repeat (first | refine blk_drewN ?_ _ | refine blk_drew ?_ | refine blk_alloc ?_ _)); refine blk_put (cs := #[.int .u64 0, .int .u64 0]) ?_ 0 _ rfl; (with_reducible repeat (first | refine blk_drewN ?_ _ | refine blk_drew ?_ | refine blk_alloc ?_ _)); exact BK138.out) hb); have n2_ := Aside0.mk (below_step (by repeat (first | (with_reducible first | exact HB.out | apply below_alloc | apply pw_below_drewN | apply below_drew1 | refine below_set ?_ GE129.out | refine below_set ?_ GE138.out) | exact HB.out)) hb); clear BK129; clear BK138; clear HB; have BK129 := n0_; have BK138 := n1_; have HB := n2_; clear n0_ n1_ n2_; (try clear hb); (try clear hb2); (try clear hk); (try clear hi); have hcz56_0 : w55.cell? ⟨gb138, 0, none⟩ = some (.int .u64 t135) := (blk_cell BK138.out 0).trans rfl; have hcz56_1 : w55.cell? ⟨gb138, 1, none⟩ = some (.int .u64 t136) := (blk_cell BK138.out 1).trans rfl; have hfz56_0 := blk_frozen BK138.out 0; have hfz56_1 := blk_frozen BK138.out 1; have hcz57_0 : w55.cell? ⟨gb129, 0, none⟩ = some (.int .u64 a1_0) := (blk_cell BK129.out 0).trans rfl; have hcz57_1 : w55.cell? ⟨gb129, 1, none⟩ = some (.int .u64 a1_1) := (blk_cell BK129.out 1).trans rfl; have hfz57_0 := blk_frozen BK129.out 0; have hfz57_1 := blk_frozen BK129.out 1) | ((with_reducible refine gate_callee (f := 58) rfl ?_); refine goesL_ (some 83) rfl rfl Try.func58 (by kernel_rfl) rfl #[.agg #[.int .u64 t135, .int .u64 t136], .agg #[.int .u64 0, .int .u64 1]] rfl (by (try simp only [List.map_toArray, List.map_cons, List.map_nil]); first | done | rfl | (simp only [List.length_drop, List.length_take]; rfl)) ?_; (with_reducible refine (wide_Wide_Add.calls t135 t136 0 1 t144 t145 t146 _ A48.out).mono ?_); rintro e w58 ⟨rfl, hb⟩; refine ⟨_, rfl, ?_⟩; have n0_ := Aside0.mk (blk_below (g := gb129) (o := .cells #[.int .u64 t135, .int .u64 t136] 42 (0, 0)) (by (with_reducible repeat (first | refine blk_drewN ?_ _ | refine blk_drew ?_ | refine blk_alloc ?_ _)); refine blk_put (cs := #[.int .u64 t135, .int .u64 a1_1]) ?_ 1 _ rfl; (with_reducible repeat (first | refine blk_drewN ?_ _ | refine blk_drew ?_ | refine blk_alloc ?_ _)); refine blk_put (cs := #[.int .u64 a1_0, .int .u64 a1_1]) ?_ 0 _ rfl; (with_reducible repeat (first | refine blk_drewN ?_ _ | refine blk_drew ?_ | refine blk_alloc ?_ _)); exact BK129.out) hb); have n1_ := Aside0.mk (blk_below (g := gb138) (o := .cells #[.int .u64 t135, .int .u64 t136] 42 (0, 0)) (by (with_reducible repeat (first | refine blk_drewN ?_ _ | refine blk_drew ?_ | refine blk_alloc ?_ _)); refine blk_far ?_ NB138_129.out _; (with_reducible repeat (first | refine blk_drewN ?_ _ | refine blk_drew ?_ | refine blk_alloc ?_ _)); refine blk_far ?_ NB138_129.out _; (with_reducible repeat (first | refine blk_drewN ?_ _ | refine blk_drew ?_ | refine blk_alloc ?_ _)); exact BK138.out) hb); have n2_ := Aside0.mk (below_step (by repeat (first | (with_reducible first | exact HB.out | apply below_alloc | apply pw_below_drewN | apply below_drew1 | refine below_set ?_ GE129.out | refine below_set ?_ GE138.out) | exact HB.out)) hb); clear BK129; clear BK138; clear HB; have BK129 := n0_; have BK138 := n1_; have HB := n2_; clear n0_ n1_ n2_; (try clear hb); (try clear hb2); (try clear hk); (try clear hi); have hcz59_0 : w58.cell? ⟨gb129, 0, none⟩ = some (.int .u64 t135) := (blk_cell BK129.out 0).trans rfl; have hcz59_1 : w58.cell? ⟨gb129, 1, none⟩ = some (.int .u64 t136) := (blk_cell BK129.out 1).trans rfl; have hfz59_0 := blk_frozen BK129.out 0; have hfz59_1 := blk_frozen BK129.out 1))
                  go_meet
                  case rel => exact ⟨_, (true), (t144), (t145), (by first | rfl | (simp; done) | (simp [*]; done)), H', ⟨by have := HJ19.out; first | omega | exact Nat.le_refl _⟩, ⟨by (with_reducible repeat (first | refine blk_drewN ?_ _ | refine blk_drew ?_ | refine blk_alloc ?_ _)); refine blk_put (cs := #[.int .u64 t144, .int .u64 t136]) ?_ 1 _ rfl; (with_reducible repeat (first | refine blk_drewN ?_ _ | refine blk_drew ?_ | refine blk_alloc ?_ _)); refine blk_put (cs := #[.int .u64 t135, .int .u64 t136]) ?_ 0 _ rfl; (with_reducible repeat (first | refine blk_drewN ?_ _ | refine blk_drew ?_ | refine blk_alloc ?_ _)); exact BK129.out⟩, ⟨by repeat (first | (with_reducible first | exact HB.out | apply below_alloc | apply pw_below_drewN | apply below_drew1 | refine below_set ?_ GE129.out | refine below_set ?_ GE138.out) | exact HB.out)⟩⟩
                · replace c47 := Bool.eq_false_iff.mpr c47
                  subst c47
                  have H1 : (if (Go.bits .and .u64 t136 1) = 1 then ((wide_Wide_Add.f t135 t136 0 1).bind fun bt147 => (round_Round.j2 kj19 a0 ji6 x10_19 (decide ((wrap64 ((ji6) + t134)) < (-1021))) true bt147.1 bt147.2.1)) else (round_Round.j2 kj19 a0 ji6 x10_19 (decide ((wrap64 ((ji6) + t134)) < (-1021))) true t135 t136)) = some (r1, r2) := by rw [if_neg (show ¬ (false = true) by decide)] at H; exact H
                  clear H
                  have H := H1
                  clear H1
                  by_cases c60 : (Go.bits .and .u64 t136 1) = 1
                  · rw [if_pos c60] at H
                    have c60b0 : ((Go.bits .and .u64 t136 1) == 1) = true := beq_iff_eq.mpr c60
                    have c60b1 : ((Go.bits .and .u64 t136 1) != 1) = false := bne_eq_false_iff_eq.mpr c60
                    clear c60
                    replace H := Option.bind_eq_some_iff.mp H
                    obtain ⟨⟨t147, t148, t149⟩, A610, H⟩ := H
                    replace H : (round_Round.j2 kj19 a0 ji6 x10_19 (decide ((wrap64 ((ji6) + t134)) < (-1021))) true t147 t148) = some (r1, r2) := H
                    have A61 := Aside0.mk A610
                    clear A610
                    have H' := Aside0.mk H
                    clear H
                    have hcz62_0 : wc.cell? ⟨gb129, 0, none⟩ = some (.int .u64 a1_0) := (blk_cell BK129.out 0).trans rfl
                    have hcz62_1 : wc.cell? ⟨gb129, 1, none⟩ = some (.int .u64 a1_1) := (blk_cell BK129.out 1).trans rfl
                    have hfz62_0 := blk_frozen BK129.out 0
                    have hfz62_1 := blk_frozen BK129.out 1
                    go_wp2_with (first | ((with_reducible refine gate_callee (f := 56) rfl ?_); refine goesL_ (some 49) rfl rfl Try.func56 (by kernel_rfl) rfl #[.agg #[.int .u64 a1_0, .int .u64 a1_1], .int .i64 x10_19] rfl (by (try simp only [List.map_toArray, List.map_cons, List.map_nil]); first | done | rfl | (simp only [List.length_drop, List.length_take]; rfl)) ?_; (with_reducible refine (wide_Wide_Right.calls a1_0 a1_1 x10_19 t135 t136 t137 _ A31.out).mono ?_); rintro e w63 ⟨rfl, hb⟩; refine ⟨_, rfl, ?_⟩; have n0_ := Aside0.mk (blk_below (g := gb129) (o := .cells #[.int .u64 a1_0, .int .u64 a1_1] 42 (0, 0)) (by (with_reducible repeat (first | refine blk_drewN ?_ _ | refine blk_drew ?_ | refine blk_alloc ?_ _)); exact BK129.out) hb); have n1_ := Aside0.mk (below_step (by repeat (first | (with_reducible first | exact HB.out | apply below_alloc | apply pw_below_drewN | apply below_drew1 | refine below_set ?_ GE129.out) | exact HB.out)) hb); clear BK129; clear HB; have BK129 := n0_; have HB := n1_; clear n0_ n1_; (try clear hb); (try clear hb2); (try clear hk); (try clear hi)) | ((with_reducible refine gate_dst (N := 14) rfl ?_); refine box_event ?hg (N := 14) ?hd (cs := #[.int .u64 0, .int .u64 0]) (t := 42) ?hr ?_; (case hd => rfl); (case hg => rfl); (case hr => first | (go_simp; done) | (go_simp; rfl)); intro gb138 hg w64 hbox hb; have n0_ := Aside0.mk (blk_below (g := gb129) (o := .cells #[.int .u64 a1_0, .int .u64 a1_1] 42 (0, 0)) (by (with_reducible repeat (first | refine blk_drewN ?_ _ | refine blk_drew ?_ | refine blk_alloc ?_ _)); exact BK129.out) hb); have n1_ := Aside0.mk (below_step (by repeat (first | (with_reducible first | exact HB.out | apply below_alloc | apply pw_below_drewN | apply below_drew1 | refine below_set ?_ GE129.out) | exact HB.out)) hb); have n2_ := Aside0.mk (hbox); have n3_ := Aside0.mk ((by rw [hg]; exact (below_size (by repeat (first | (with_reducible first | exact HB.out | apply below_alloc | apply pw_below_drewN | apply below_drew1 | refine below_set ?_ GE129.out) | exact HB.out))) : w.heap.size ≤ gb138)); have n4_ := Aside0.mk ((by rw [hg]; exact (below_size (by repeat (first | (with_reducible first | exact HB.out | apply below_alloc | apply pw_below_drewN | apply below_drew1 | refine below_set ?_ GE129.out) | exact HB.out))) : w.heap.size ≤ gb138)); have n5_ := Aside0.mk ((by rw [hg]; exact Nat.ne_of_lt (blk_lt (g := gb129) (o := .cells #[.int .u64 a1_0, .int .u64 a1_1] 42 (0, 0)) (by (with_reducible repeat (first | refine blk_drewN ?_ _ | refine blk_drew ?_ | refine blk_alloc ?_ _)); exact BK129.out)) : gb129 ≠ gb138)); have n6_ := Aside0.mk ((by rw [hg]; exact Nat.ne_of_gt (blk_lt (g := gb129) (o := .cells #[.int .u64 a1_0, .int .u64 a1_1] 42 (0, 0)) (by (with_reducible repeat (first | refine blk_drewN ?_ _ | refine blk_drew ?_ | refine blk_alloc ?_ _)); exact BK129.out)) : gb138 ≠ gb129)); clear BK129; clear HB; have BK129 := n0_; have HB := n1_; have BK138 := n2_; have GW138 := n3_; have GE138 := n4_; have NB129_138 := n5_; have NB138_129 := n6_; clear n0_ n1_ n2_ n3_ n4_ n5_ n6_; clear hb hbox hg; have hnb65 := NB138_129.out; have hnc65 := NB129_138.out; have hcz66_0 : w64.cell? ⟨gb138, 0, none⟩ = some (.int .u64 0) := (blk_cell BK138.out 0).trans rfl; have hcz66_1 : w64.cell? ⟨gb138, 1, none⟩ = some (.int .u64 0) := (blk_cell BK138.out 1).trans rfl; have hfz66_0 := blk_frozen BK138.out 0; have hfz66_1 := blk_frozen BK138.out 1; have hcz67_0 : w64.cell? ⟨gb129, 0, none⟩ = some (.int .u64 a1_0) := (blk_cell BK129.out 0).trans rfl; have hcz67_1 : w64.cell? ⟨gb129, 1, none⟩ = some (.int .u64 a1_1) := (blk_cell BK129.out 1).trans rfl; have hfz67_0 := blk_frozen BK129.out 0; have hfz67_1 := blk_frozen BK129.out 1) | ((with_reducible refine gate_callee (f := 57) rfl ?_); refine goesL_ (some 56) rfl rfl Try.func57 (by kernel_rfl) rfl #[.agg #[.int .u64 a1_0, .int .u64 a1_1], .int .i64 x10_19, .bool t137] rfl (by (try simp only [List.map_toArray, List.map_cons, List.map_nil]); first | done | rfl | (simp only [List.length_drop, List.length_take]; rfl)) ?_; (with_reducible refine (round_split.calls a1_0 a1_1 x10_19 t137 true false _ A32.out).mono ?_); rintro e w68 ⟨rfl, hb⟩; refine ⟨_, rfl, ?_⟩; have n0_ := Aside0.mk (blk_below (g := gb129) (o := .cells #[.int .u64 a1_0, .int .u64 a1_1] 42 (0, 0)) (by (with_reducible repeat (first | refine blk_drewN ?_ _ | refine blk_drew ?_ | refine blk_alloc ?_ _)); refine blk_far ?_ NB129_138.out _; (with_reducible repeat (first | refine blk_drewN ?_ _ | refine blk_drew ?_ | refine blk_alloc ?_ _)); refine blk_far ?_ NB129_138.out _; (with_reducible repeat (first | refine blk_drewN ?_ _ | refine blk_drew ?_ | refine blk_alloc ?_ _)); exact BK129.out) hb); have n1_ := Aside0.mk (blk_below (g := gb138) (o := .cells #[.int .u64 t135, .int .u64 t136] 42 (0, 0)) (by (with_reducible repeat (first | refine blk_drewN ?_ _ | refine blk_drew ?_ | refine blk_alloc ?_ _)); refine blk_put (cs := #[.int .u64 t135, .int .u64 0]) ?_ 1 _ rfl; (with_reducible repeat (first | refine blk_drewN ?_ _ | refine blk_drew ?_ | refine blk_alloc ?_ _)); refine blk_put (cs := #[.int .u64 0, .int .u64 0]) ?_ 0 _ rfl; (with_reducible repeat (first | refine blk_drewN ?_ _ | refine blk_drew ?_ | refine blk_alloc ?_ _)); exact BK138.out) hb); have n2_ := Aside0.mk (below_step (by repeat (first | (with_reducible first | exact HB.out | apply below_alloc | apply pw_below_drewN | apply below_drew1 | refine below_set ?_ GE129.out | refine below_set ?_ GE138.out) | exact HB.out)) hb); clear BK129; clear BK138; clear HB; have BK129 := n0_; have BK138 := n1_; have HB := n2_; clear n0_ n1_ n2_; (try clear hb); (try clear hb2); (try clear hk); (try clear hi); have hcz69_0 : w68.cell? ⟨gb138, 0, none⟩ = some (.int .u64 t135) := (blk_cell BK138.out 0).trans rfl; have hcz69_1 : w68.cell? ⟨gb138, 1, none⟩ = some (.int .u64 t136) := (blk_cell BK138.out 1).trans rfl; have hfz69_0 := blk_frozen BK138.out 0; have hfz69_1 := blk_frozen BK138.out 1; have hcz70_0 : w68.cell? ⟨gb129, 0, none⟩ = some (.int .u64 a1_0) := (blk_cell BK129.out 0).trans rfl; have hcz70_1 : w68.cell? ⟨gb129, 1, none⟩ = some (.int .u64 a1_1) := (blk_cell BK129.out 1).trans rfl; have hfz70_0 := blk_frozen BK129.out 0; have hfz70_1 := blk_frozen BK129.out 1) | ((with_reducible refine gate_callee (f := 58) rfl ?_); refine goesL_ (some 83) rfl rfl Try.func58 (by kernel_rfl) rfl #[.agg #[.int .u64 t135, .int .u64 t136], .agg #[.int .u64 0, .int .u64 1]] rfl (by (try simp only [List.map_toArray, List.map_cons, List.map_nil]); first | done | rfl | (simp only [List.length_drop, List.length_take]; rfl)) ?_; (with_reducible refine (wide_Wide_Add.calls t135 t136 0 1 t147 t148 t149 _ A61.out).mono ?_); rintro e w71 ⟨rfl, hb⟩; refine ⟨_, rfl, ?_⟩; have n0_ := Aside0.mk (blk_below (g := gb129) (o := .cells #[.int .u64 t135, .int .u64 t136] 42 (0, 0)) (by (with_reducible repeat (first | refine blk_drewN ?_ _ | refine blk_drew ?_ | refine blk_alloc ?_ _)); refine blk_put (cs := #[.int .u64 t135, .int .u64 a1_1]) ?_ 1 _ rfl; (with_reducible repeat (first | refine blk_drewN ?_ _ | refine blk_drew ?_ | refine blk_alloc ?_ _)); refine blk_put (cs := #[.int .u64 a1_0, .int .u64 a1_1]) ?_ 0 _ rfl; (with_reducible repeat (first | refine blk_drewN ?_ _ | refine blk_drew ?_ | refine blk_alloc ?_ _)); exact BK129.out) hb); have n1_ := Aside0.mk (blk_below (g := gb138) (o := .cells #[.int .u64 t135, .int .u64 t136] 42 (0, 0)) (by (with_reducible repeat (first | refine blk_drewN ?_ _ | refine blk_drew ?_ | refine blk_alloc ?_ _)); refine blk_far ?_ NB138_129.out _; (with_reducible repeat (first | refine blk_drewN ?_ _ | refine blk_drew ?_ | refine blk_alloc ?_ _)); refine blk_far ?_ NB138_129.out _; (with_reducible repeat (first | refine blk_drewN ?_ _ | refine blk_drew ?_ | refine blk_alloc ?_ _)); exact BK138.out) hb); have n2_ := Aside0.mk (below_step (by repeat (first | (with_reducible first | exact HB.out | apply below_alloc | apply pw_below_drewN | apply below_drew1 | refine below_set ?_ GE129.out | refine below_set ?_ GE138.out) | exact HB.out)) hb); clear BK129; clear BK138; clear HB; have BK129 := n0_; have BK138 := n1_; have HB := n2_; clear n0_ n1_ n2_; (try clear hb); (try clear hb2); (try clear hk); (try clear hi); have hcz72_0 : w71.cell? ⟨gb129, 0, none⟩ = some (.int .u64 t135) := (blk_cell BK129.out 0).trans rfl; have hcz72_1 : w71.cell? ⟨gb129, 1, none⟩ = some (.int .u64 t136) := (blk_cell BK129.out 1).trans rfl; have hfz72_0 := blk_frozen BK129.out 0; have hfz72_1 := blk_frozen BK129.out 1))
                    go_meet
                    case rel => exact ⟨_, (true), (t147), (t148), (by first | rfl | (simp; done) | (simp [*]; done)), H', ⟨by have := HJ19.out; first | omega | exact Nat.le_refl _⟩, ⟨by (with_reducible repeat (first | refine blk_drewN ?_ _ | refine blk_drew ?_ | refine blk_alloc ?_ _)); refine blk_put (cs := #[.int .u64 t147, .int .u64 t136]) ?_ 1 _ rfl; (with_reducible repeat (first | refine blk_drewN ?_ _ | refine blk_drew ?_ | refine blk_alloc ?_ _)); refine blk_put (cs := #[.int .u64 t135, .int .u64 t136]) ?_ 0 _ rfl; (with_reducible repeat (first | refine blk_drewN ?_ _ | refine blk_drew ?_ | refine blk_alloc ?_ _)); exact BK129.out⟩, ⟨by repeat (first | (with_reducible first | exact HB.out | apply below_alloc | apply pw_below_drewN | apply below_drew1 | refine below_set ?_ GE129.out | refine below_set ?_ GE138.out) | exact HB.out)⟩⟩
                  · rw [if_neg c60] at H
                    have c60b0 : ((Go.bits .and .u64 t136 1) == 1) = false := beq_eq_false_iff_ne.mpr c60
                    have c60b1 : ((Go.bits .and .u64 t136 1) != 1) = true := bne_iff_ne.mpr c60
                    have H' := Aside0.mk H
                    clear H
                    have hcz73_0 : wc.cell? ⟨gb129, 0, none⟩ = some (.int .u64 a1_0) := (blk_cell BK129.out 0).trans rfl
                    have hcz73_1 : wc.cell? ⟨gb129, 1, none⟩ = some (.int .u64 a1_1) := (blk_cell BK129.out 1).trans rfl
                    have hfz73_0 := blk_frozen BK129.out 0
                    have hfz73_1 := blk_frozen BK129.out 1
                    go_wp2_with (first | ((with_reducible refine gate_callee (f := 56) rfl ?_); refine goesL_ (some 49) rfl rfl Try.func56 (by kernel_rfl) rfl #[.agg #[.int .u64 a1_0, .int .u64 a1_1], .int .i64 x10_19] rfl (by (try simp only [List.map_toArray, List.map_cons, List.map_nil]); first | done | rfl | (simp only [List.length_drop, List.length_take]; rfl)) ?_; (with_reducible refine (wide_Wide_Right.calls a1_0 a1_1 x10_19 t135 t136 t137 _ A31.out).mono ?_); rintro e w74 ⟨rfl, hb⟩; refine ⟨_, rfl, ?_⟩; have n0_ := Aside0.mk (blk_below (g := gb129) (o := .cells #[.int .u64 a1_0, .int .u64 a1_1] 42 (0, 0)) (by (with_reducible repeat (first | refine blk_drewN ?_ _ | refine blk_drew ?_ | refine blk_alloc ?_ _)); exact BK129.out) hb); have n1_ := Aside0.mk (below_step (by repeat (first | (with_reducible first | exact HB.out | apply below_alloc | apply pw_below_drewN | apply below_drew1 | refine below_set ?_ GE129.out) | exact HB.out)) hb); clear BK129; clear HB; have BK129 := n0_; have HB := n1_; clear n0_ n1_; (try clear hb); (try clear hb2); (try clear hk); (try clear hi)) | ((with_reducible refine gate_dst (N := 14) rfl ?_); refine box_event ?hg (N := 14) ?hd (cs := #[.int .u64 0, .int .u64 0]) (t := 42) ?hr ?_; (case hd => rfl); (case hg => rfl); (case hr => first | (go_simp; done) | (go_simp; rfl)); intro gb138 hg w75 hbox hb; have n0_ := Aside0.mk (blk_below (g := gb129) (o := .cells #[.int .u64 a1_0, .int .u64 a1_1] 42 (0, 0)) (by (with_reducible repeat (first | refine blk_drewN ?_ _ | refine blk_drew ?_ | refine blk_alloc ?_ _)); exact BK129.out) hb); have n1_ := Aside0.mk (below_step (by repeat (first | (with_reducible first | exact HB.out | apply below_alloc | apply pw_below_drewN | apply below_drew1 | refine below_set ?_ GE129.out) | exact HB.out)) hb); have n2_ := Aside0.mk (hbox); have n3_ := Aside0.mk ((by rw [hg]; exact (below_size (by repeat (first | (with_reducible first | exact HB.out | apply below_alloc | apply pw_below_drewN | apply below_drew1 | refine below_set ?_ GE129.out) | exact HB.out))) : w.heap.size ≤ gb138)); have n4_ := Aside0.mk ((by rw [hg]; exact (below_size (by repeat (first | (with_reducible first | exact HB.out | apply below_alloc | apply pw_below_drewN | apply below_drew1 | refine below_set ?_ GE129.out) | exact HB.out))) : w.heap.size ≤ gb138)); have n5_ := Aside0.mk ((by rw [hg]; exact Nat.ne_of_lt (blk_lt (g := gb129) (o := .cells #[.int .u64 a1_0, .int .u64 a1_1] 42 (0, 0)) (by (with_reducible repeat (first | refine blk_drewN ?_ _ | refine blk_drew ?_ | refine blk_alloc ?_ _)); exact BK129.out)) : gb129 ≠ gb138)); have n6_ := Aside0.mk ((by rw [hg]; exact Nat.ne_of_gt (blk_lt (g := gb129) (o := .cells #[.int .u64 a1_0, .int .u64 a1_1] 42 (0, 0)) (by (with_reducible repeat (first | refine blk_drewN ?_ _ | refine blk_drew ?_ | refine blk_alloc ?_ _)); exact BK129.out)) : gb138 ≠ gb129)); clear BK129; clear HB; have BK129 := n0_; have HB := n1_; have BK138 := n2_; have GW138 := n3_; have GE138 := n4_; have NB129_138 := n5_; have NB138_129 := n6_; clear n0_ n1_ n2_ n3_ n4_ n5_ n6_; clear hb hbox hg; have hnb76 := NB138_129.out; have hnc76 := NB129_138.out; have hcz77_0 : w75.cell? ⟨gb138, 0, none⟩ = some (.int .u64 0) := (blk_cell BK138.out 0).trans rfl; have hcz77_1 : w75.cell? ⟨gb138, 1, none⟩ = some (.int .u64 0) := (blk_cell BK138.out 1).trans rfl; have hfz77_0 := blk_frozen BK138.out 0; have hfz77_1 := blk_frozen BK138.out 1; have hcz78_0 : w75.cell? ⟨gb129, 0, none⟩ = some (.int .u64 a1_0) := (blk_cell BK129.out 0).trans rfl; have hcz78_1 : w75.cell? ⟨gb129, 1, none⟩ = some (.int .u64 a1_1) := (blk_cell BK129.out 1).trans rfl; have hfz78_0 := blk_frozen BK129.out 0; have hfz78_1 := blk_frozen BK129.out 1) | ((with_reducible refine gate_callee (f := 57) rfl ?_); refine goesL_ (some 56) rfl rfl Try.func57 (by kernel_rfl) rfl #[.agg #[.int .u64 a1_0, .int .u64 a1_1], .int .i64 x10_19, .bool t137] rfl (by (try simp only [List.map_toArray, List.map_cons, List.map_nil]); first | done | rfl | (simp only [List.length_drop, List.length_take]; rfl)) ?_; (with_reducible refine (round_split.calls a1_0 a1_1 x10_19 t137 true false _ A32.out).mono ?_); rintro e w79 ⟨rfl, hb⟩; refine ⟨_, rfl, ?_⟩; have n0_ := Aside0.mk (blk_below (g := gb129) (o := .cells #[.int .u64 a1_0, .int .u64 a1_1] 42 (0, 0)) (by (with_reducible repeat (first | refine blk_drewN ?_ _ | refine blk_drew ?_ | refine blk_alloc ?_ _)); refine blk_far ?_ NB129_138.out _; (with_reducible repeat (first | refine blk_drewN ?_ _ | refine blk_drew ?_ | refine blk_alloc ?_ _)); refine blk_far ?_ NB129_138.out _; (with_reducible repeat (first | refine blk_drewN ?_ _ | refine blk_drew ?_ | refine blk_alloc ?_ _)); exact BK129.out) hb); have n1_ := Aside0.mk (blk_below (g := gb138) (o := .cells #[.int .u64 t135, .int .u64 t136] 42 (0, 0)) (by (with_reducible repeat (first | refine blk_drewN ?_ _ | refine blk_drew ?_ | refine blk_alloc ?_ _)); refine blk_put (cs := #[.int .u64 t135, .int .u64 0]) ?_ 1 _ rfl; (with_reducible repeat (first | refine blk_drewN ?_ _ | refine blk_drew ?_ | refine blk_alloc ?_ _)); refine blk_put (cs := #[.int .u64 0, .int .u64 0]) ?_ 0 _ rfl; (with_reducible repeat (first | refine blk_drewN ?_ _ | refine blk_drew ?_ | refine blk_alloc ?_ _)); exact BK138.out) hb); have n2_ := Aside0.mk (below_step (by repeat (first | (with_reducible first | exact HB.out | apply below_alloc | apply pw_below_drewN | apply below_drew1 | refine below_set ?_ GE129.out | refine below_set ?_ GE138.out) | exact HB.out)) hb); clear BK129; clear BK138; clear HB; have BK129 := n0_; have BK138 := n1_; have HB := n2_; clear n0_ n1_ n2_; (try clear hb); (try clear hb2); (try clear hk); (try clear hi); have hcz80_0 : w79.cell? ⟨gb138, 0, none⟩ = some (.int .u64 t135) := (blk_cell BK138.out 0).trans rfl; have hcz80_1 : w79.cell? ⟨gb138, 1, none⟩ = some (.int .u64 t136) := (blk_cell BK138.out 1).trans rfl; have hfz80_0 := blk_frozen BK138.out 0; have hfz80_1 := blk_frozen BK138.out 1; have hcz81_0 : w79.cell? ⟨gb129, 0, none⟩ = some (.int .u64 a1_0) := (blk_cell BK129.out 0).trans rfl; have hcz81_1 : w79.cell? ⟨gb129, 1, none⟩ = some (.int .u64 a1_1) := (blk_cell BK129.out 1).trans rfl; have hfz81_0 := blk_frozen BK129.out 0; have hfz81_1 := blk_frozen BK129.out 1))
                    go_meet
                    case rel => exact ⟨_, (true), (t135), (t136), (by first | rfl | (simp; done) | (simp [*]; done)), H', ⟨by have := HJ19.out; first | omega | exact Nat.le_refl _⟩, ⟨by (with_reducible repeat (first | refine blk_drewN ?_ _ | refine blk_drew ?_ | refine blk_alloc ?_ _)); refine blk_put (cs := #[.int .u64 t135, .int .u64 a1_1]) ?_ 1 _ rfl; (with_reducible repeat (first | refine blk_drewN ?_ _ | refine blk_drew ?_ | refine blk_alloc ?_ _)); refine blk_put (cs := #[.int .u64 a1_0, .int .u64 a1_1]) ?_ 0 _ rfl; (with_reducible repeat (first | refine blk_drewN ?_ _ | refine blk_drew ?_ | refine blk_alloc ?_ _)); exact BK129.out⟩, ⟨by repeat (first | (with_reducible first | exact HB.out | apply below_alloc | apply pw_below_drewN | apply below_drew1 | refine below_set ?_ GE129.out | refine below_set ?_ GE138.out) | exact HB.out)⟩⟩
            · replace c33 := Bool.eq_false_iff.mpr c33
              subst c33
              have H1 : (if t140 = true then (round_Round.j2 kj19 a0 ji6 x10_19 (decide ((wrap64 ((ji6) + t134)) < (-1021))) true t135 t136) else (round_Round.j2 kj19 a0 ji6 x10_19 (decide ((wrap64 ((ji6) + t134)) < (-1021))) a3 t135 t136)) = some (r1, r2) := by rw [if_neg (show ¬ (false = true) by decide)] at H; exact H
              clear H
              have H := H1
              clear H1
              by_cases c82 : t140 = true
              · subst c82
                have H1 : (round_Round.j2 kj19 a0 ji6 x10_19 (decide ((wrap64 ((ji6) + t134)) < (-1021))) true t135 t136) = some (r1, r2) := by rw [if_pos rfl] at H; exact H
                clear H
                have H := H1
                clear H1
                have H' := Aside0.mk H
                clear H
                have hcz83_0 : wc.cell? ⟨gb129, 0, none⟩ = some (.int .u64 a1_0) := (blk_cell BK129.out 0).trans rfl
                have hcz83_1 : wc.cell? ⟨gb129, 1, none⟩ = some (.int .u64 a1_1) := (blk_cell BK129.out 1).trans rfl
                have hfz83_0 := blk_frozen BK129.out 0
                have hfz83_1 := blk_frozen BK129.out 1
                go_wp2_with (first | ((with_reducible refine gate_callee (f := 56) rfl ?_); refine goesL_ (some 49) rfl rfl Try.func56 (by kernel_rfl) rfl #[.agg #[.int .u64 a1_0, .int .u64 a1_1], .int .i64 x10_19] rfl (by (try simp only [List.map_toArray, List.map_cons, List.map_nil]); first | done | rfl | (simp only [List.length_drop, List.length_take]; rfl)) ?_; (with_reducible refine (wide_Wide_Right.calls a1_0 a1_1 x10_19 t135 t136 t137 _ A31.out).mono ?_); rintro e w84 ⟨rfl, hb⟩; refine ⟨_, rfl, ?_⟩; have n0_ := Aside0.mk (blk_below (g := gb129) (o := .cells #[.int .u64 a1_0, .int .u64 a1_1] 42 (0, 0)) (by (with_reducible repeat (first | refine blk_drewN ?_ _ | refine blk_drew ?_ | refine blk_alloc ?_ _)); exact BK129.out) hb); have n1_ := Aside0.mk (below_step (by repeat (first | (with_reducible first | exact HB.out | apply below_alloc | apply pw_below_drewN | apply below_drew1 | refine below_set ?_ GE129.out) | exact HB.out)) hb); clear BK129; clear HB; have BK129 := n0_; have HB := n1_; clear n0_ n1_; (try clear hb); (try clear hb2); (try clear hk); (try clear hi)) | ((with_reducible refine gate_dst (N := 14) rfl ?_); refine box_event ?hg (N := 14) ?hd (cs := #[.int .u64 0, .int .u64 0]) (t := 42) ?hr ?_; (case hd => rfl); (case hg => rfl); (case hr => first | (go_simp; done) | (go_simp; rfl)); intro gb138 hg w85 hbox hb; have n0_ := Aside0.mk (blk_below (g := gb129) (o := .cells #[.int .u64 a1_0, .int .u64 a1_1] 42 (0, 0)) (by (with_reducible repeat (first | refine blk_drewN ?_ _ | refine blk_drew ?_ | refine blk_alloc ?_ _)); exact BK129.out) hb); have n1_ := Aside0.mk (below_step (by repeat (first | (with_reducible first | exact HB.out | apply below_alloc | apply pw_below_drewN | apply below_drew1 | refine below_set ?_ GE129.out) | exact HB.out)) hb); have n2_ := Aside0.mk (hbox); have n3_ := Aside0.mk ((by rw [hg]; exact (below_size (by repeat (first | (with_reducible first | exact HB.out | apply below_alloc | apply pw_below_drewN | apply below_drew1 | refine below_set ?_ GE129.out) | exact HB.out))) : w.heap.size ≤ gb138)); have n4_ := Aside0.mk ((by rw [hg]; exact (below_size (by repeat (first | (with_reducible first | exact HB.out | apply below_alloc | apply pw_below_drewN | apply below_drew1 | refine below_set ?_ GE129.out) | exact HB.out))) : w.heap.size ≤ gb138)); have n5_ := Aside0.mk ((by rw [hg]; exact Nat.ne_of_lt (blk_lt (g := gb129) (o := .cells #[.int .u64 a1_0, .int .u64 a1_1] 42 (0, 0)) (by (with_reducible repeat (first | refine blk_drewN ?_ _ | refine blk_drew ?_ | refine blk_alloc ?_ _)); exact BK129.out)) : gb129 ≠ gb138)); have n6_ := Aside0.mk ((by rw [hg]; exact Nat.ne_of_gt (blk_lt (g := gb129) (o := .cells #[.int .u64 a1_0, .int .u64 a1_1] 42 (0, 0)) (by (with_reducible repeat (first | refine blk_drewN ?_ _ | refine blk_drew ?_ | refine blk_alloc ?_ _)); exact BK129.out)) : gb138 ≠ gb129)); clear BK129; clear HB; have BK129 := n0_; have HB := n1_; have BK138 := n2_; have GW138 := n3_; have GE138 := n4_; have NB129_138 := n5_; have NB138_129 := n6_; clear n0_ n1_ n2_ n3_ n4_ n5_ n6_; clear hb hbox hg; have hnb86 := NB138_129.out; have hnc86 := NB129_138.out; have hcz87_0 : w85.cell? ⟨gb138, 0, none⟩ = some (.int .u64 0) := (blk_cell BK138.out 0).trans rfl; have hcz87_1 : w85.cell? ⟨gb138, 1, none⟩ = some (.int .u64 0) := (blk_cell BK138.out 1).trans rfl; have hfz87_0 := blk_frozen BK138.out 0; have hfz87_1 := blk_frozen BK138.out 1; have hcz88_0 : w85.cell? ⟨gb129, 0, none⟩ = some (.int .u64 a1_0) := (blk_cell BK129.out 0).trans rfl; have hcz88_1 : w85.cell? ⟨gb129, 1, none⟩ = some (.int .u64 a1_1) := (blk_cell BK129.out 1).trans rfl; have hfz88_0 := blk_frozen BK129.out 0; have hfz88_1 := blk_frozen BK129.out 1) | ((with_reducible refine gate_callee (f := 57) rfl ?_); refine goesL_ (some 56) rfl rfl Try.func57 (by kernel_rfl) rfl #[.agg #[.int .u64 a1_0, .int .u64 a1_1], .int .i64 x10_19, .bool t137] rfl (by (try simp only [List.map_toArray, List.map_cons, List.map_nil]); first | done | rfl | (simp only [List.length_drop, List.length_take]; rfl)) ?_; (with_reducible refine (round_split.calls a1_0 a1_1 x10_19 t137 false true _ A32.out).mono ?_); rintro e w89 ⟨rfl, hb⟩; refine ⟨_, rfl, ?_⟩; have n0_ := Aside0.mk (blk_below (g := gb129) (o := .cells #[.int .u64 a1_0, .int .u64 a1_1] 42 (0, 0)) (by (with_reducible repeat (first | refine blk_drewN ?_ _ | refine blk_drew ?_ | refine blk_alloc ?_ _)); refine blk_far ?_ NB129_138.out _; (with_reducible repeat (first | refine blk_drewN ?_ _ | refine blk_drew ?_ | refine blk_alloc ?_ _)); refine blk_far ?_ NB129_138.out _; (with_reducible repeat (first | refine blk_drewN ?_ _ | refine blk_drew ?_ | refine blk_alloc ?_ _)); exact BK129.out) hb); have n1_ := Aside0.mk (blk_below (g := gb138) (o := .cells #[.int .u64 t135, .int .u64 t136] 42 (0, 0)) (by (with_reducible repeat (first | refine blk_drewN ?_ _ | refine blk_drew ?_ | refine blk_alloc ?_ _)); refine blk_put (cs := #[.int .u64 t135, .int .u64 0]) ?_ 1 _ rfl; (with_reducible repeat (first | refine blk_drewN ?_ _ | refine blk_drew ?_ | refine blk_alloc ?_ _)); refine blk_put (cs := #[.int .u64 0, .int .u64 0]) ?_ 0 _ rfl; (with_reducible repeat (first | refine blk_drewN ?_ _ | refine blk_drew ?_ | refine blk_alloc ?_ _)); exact BK138.out) hb); have n2_ := Aside0.mk (below_step (by repeat (first | (with_reducible first | exact HB.out | apply below_alloc | apply pw_below_drewN | apply below_drew1 | refine below_set ?_ GE129.out | refine below_set ?_ GE138.out) | exact HB.out)) hb); clear BK129; clear BK138; clear HB; have BK129 := n0_; have BK138 := n1_; have HB := n2_; clear n0_ n1_ n2_; (try clear hb); (try clear hb2); (try clear hk); (try clear hi); have hcz90_0 : w89.cell? ⟨gb138, 0, none⟩ = some (.int .u64 t135) := (blk_cell BK138.out 0).trans rfl; have hcz90_1 : w89.cell? ⟨gb138, 1, none⟩ = some (.int .u64 t136) := (blk_cell BK138.out 1).trans rfl; have hfz90_0 := blk_frozen BK138.out 0; have hfz90_1 := blk_frozen BK138.out 1; have hcz91_0 : w89.cell? ⟨gb129, 0, none⟩ = some (.int .u64 a1_0) := (blk_cell BK129.out 0).trans rfl; have hcz91_1 : w89.cell? ⟨gb129, 1, none⟩ = some (.int .u64 a1_1) := (blk_cell BK129.out 1).trans rfl; have hfz91_0 := blk_frozen BK129.out 0; have hfz91_1 := blk_frozen BK129.out 1))
                go_meet
                case rel => exact ⟨_, (true), (t135), (t136), (by first | rfl | (simp; done) | (simp [*]; done)), H', ⟨by have := HJ19.out; first | omega | exact Nat.le_refl _⟩, ⟨by (with_reducible repeat (first | refine blk_drewN ?_ _ | refine blk_drew ?_ | refine blk_alloc ?_ _)); refine blk_put (cs := #[.int .u64 t135, .int .u64 a1_1]) ?_ 1 _ rfl; (with_reducible repeat (first | refine blk_drewN ?_ _ | refine blk_drew ?_ | refine blk_alloc ?_ _)); refine blk_put (cs := #[.int .u64 a1_0, .int .u64 a1_1]) ?_ 0 _ rfl; (with_reducible repeat (first | refine blk_drewN ?_ _ | refine blk_drew ?_ | refine blk_alloc ?_ _)); exact BK129.out⟩, ⟨by repeat (first | (with_reducible first | exact HB.out | apply below_alloc | apply pw_below_drewN | apply below_drew1 | refine below_set ?_ GE129.out | refine below_set ?_ GE138.out) | exact HB.out)⟩⟩
              · replace c82 := Bool.eq_false_iff.mpr c82
                subst c82
                have H1 : (round_Round.j2 kj19 a0 ji6 x10_19 (decide ((wrap64 ((ji6) + t134)) < (-1021))) a3 t135 t136) = some (r1, r2) := by rw [if_neg (show ¬ (false = true) by decide)] at H; exact H
                clear H
                have H := H1
                clear H1
                have H' := Aside0.mk H
                clear H
                have hcz92_0 : wc.cell? ⟨gb129, 0, none⟩ = some (.int .u64 a1_0) := (blk_cell BK129.out 0).trans rfl
                have hcz92_1 : wc.cell? ⟨gb129, 1, none⟩ = some (.int .u64 a1_1) := (blk_cell BK129.out 1).trans rfl
                have hfz92_0 := blk_frozen BK129.out 0
                have hfz92_1 := blk_frozen BK129.out 1
                go_wp2_with (first | ((with_reducible refine gate_callee (f := 56) rfl ?_); refine goesL_ (some 49) rfl rfl Try.func56 (by kernel_rfl) rfl #[.agg #[.int .u64 a1_0, .int .u64 a1_1], .int .i64 x10_19] rfl (by (try simp only [List.map_toArray, List.map_cons, List.map_nil]); first | done | rfl | (simp only [List.length_drop, List.length_take]; rfl)) ?_; (with_reducible refine (wide_Wide_Right.calls a1_0 a1_1 x10_19 t135 t136 t137 _ A31.out).mono ?_); rintro e w93 ⟨rfl, hb⟩; refine ⟨_, rfl, ?_⟩; have n0_ := Aside0.mk (blk_below (g := gb129) (o := .cells #[.int .u64 a1_0, .int .u64 a1_1] 42 (0, 0)) (by (with_reducible repeat (first | refine blk_drewN ?_ _ | refine blk_drew ?_ | refine blk_alloc ?_ _)); exact BK129.out) hb); have n1_ := Aside0.mk (below_step (by repeat (first | (with_reducible first | exact HB.out | apply below_alloc | apply pw_below_drewN | apply below_drew1 | refine below_set ?_ GE129.out) | exact HB.out)) hb); clear BK129; clear HB; have BK129 := n0_; have HB := n1_; clear n0_ n1_; (try clear hb); (try clear hb2); (try clear hk); (try clear hi)) | ((with_reducible refine gate_dst (N := 14) rfl ?_); refine box_event ?hg (N := 14) ?hd (cs := #[.int .u64 0, .int .u64 0]) (t := 42) ?hr ?_; (case hd => rfl); (case hg => rfl); (case hr => first | (go_simp; done) | (go_simp; rfl)); intro gb138 hg w94 hbox hb; have n0_ := Aside0.mk (blk_below (g := gb129) (o := .cells #[.int .u64 a1_0, .int .u64 a1_1] 42 (0, 0)) (by (with_reducible repeat (first | refine blk_drewN ?_ _ | refine blk_drew ?_ | refine blk_alloc ?_ _)); exact BK129.out) hb); have n1_ := Aside0.mk (below_step (by repeat (first | (with_reducible first | exact HB.out | apply below_alloc | apply pw_below_drewN | apply below_drew1 | refine below_set ?_ GE129.out) | exact HB.out)) hb); have n2_ := Aside0.mk (hbox); have n3_ := Aside0.mk ((by rw [hg]; exact (below_size (by repeat (first | (with_reducible first | exact HB.out | apply below_alloc | apply pw_below_drewN | apply below_drew1 | refine below_set ?_ GE129.out) | exact HB.out))) : w.heap.size ≤ gb138)); have n4_ := Aside0.mk ((by rw [hg]; exact (below_size (by repeat (first | (with_reducible first | exact HB.out | apply below_alloc | apply pw_below_drewN | apply below_drew1 | refine below_set ?_ GE129.out) | exact HB.out))) : w.heap.size ≤ gb138)); have n5_ := Aside0.mk ((by rw [hg]; exact Nat.ne_of_lt (blk_lt (g := gb129) (o := .cells #[.int .u64 a1_0, .int .u64 a1_1] 42 (0, 0)) (by (with_reducible repeat (first | refine blk_drewN ?_ _ | refine blk_drew ?_ | refine blk_alloc ?_ _)); exact BK129.out)) : gb129 ≠ gb138)); have n6_ := Aside0.mk ((by rw [hg]; exact Nat.ne_of_gt (blk_lt (g := gb129) (o := .cells #[.int .u64 a1_0, .int .u64 a1_1] 42 (0, 0)) (by (with_reducible repeat (first | refine blk_drewN ?_ _ | refine blk_drew ?_ | refine blk_alloc ?_ _)); exact BK129.out)) : gb138 ≠ gb129)); clear BK129; clear HB; have BK129 := n0_; have HB := n1_; have BK138 := n2_; have GW138 := n3_; have GE138 := n4_; have NB129_138 := n5_; have NB138_129 := n6_; clear n0_ n1_ n2_ n3_ n4_ n5_ n6_; clear hb hbox hg; have hnb95 := NB138_129.out; have hnc95 := NB129_138.out; have hcz96_0 : w94.cell? ⟨gb138, 0, none⟩ = some (.int .u64 0) := (blk_cell BK138.out 0).trans rfl; have hcz96_1 : w94.cell? ⟨gb138, 1, none⟩ = some (.int .u64 0) := (blk_cell BK138.out 1).trans rfl; have hfz96_0 := blk_frozen BK138.out 0; have hfz96_1 := blk_frozen BK138.out 1; have hcz97_0 : w94.cell? ⟨gb129, 0, none⟩ = some (.int .u64 a1_0) := (blk_cell BK129.out 0).trans rfl; have hcz97_1 : w94.cell? ⟨gb129, 1, none⟩ = some (.int .u64 a1_1) := (blk_cell BK129.out 1).trans rfl; have hfz97_0 := blk_frozen BK129.out 0; have hfz97_1 := blk_frozen BK129.out 1) | ((with_reducible refine gate_callee (f := 57) rfl ?_); refine goesL_ (some 56) rfl rfl Try.func57 (by kernel_rfl) rfl #[.agg #[.int .u64 a1_0, .int .u64 a1_1], .int .i64 x10_19, .bool t137] rfl (by (try simp only [List.map_toArray, List.map_cons, List.map_nil]); first | done | rfl | (simp only [List.length_drop, List.length_take]; rfl)) ?_; (with_reducible refine (round_split.calls a1_0 a1_1 x10_19 t137 false false _ A32.out).mono ?_); rintro e w98 ⟨rfl, hb⟩; refine ⟨_, rfl, ?_⟩; have n0_ := Aside0.mk (blk_below (g := gb129) (o := .cells #[.int .u64 a1_0, .int .u64 a1_1] 42 (0, 0)) (by (with_reducible repeat (first | refine blk_drewN ?_ _ | refine blk_drew ?_ | refine blk_alloc ?_ _)); refine blk_far ?_ NB129_138.out _; (with_reducible repeat (first | refine blk_drewN ?_ _ | refine blk_drew ?_ | refine blk_alloc ?_ _)); refine blk_far ?_ NB129_138.out _; (with_reducible repeat (first | refine blk_drewN ?_ _ | refine blk_drew ?_ | refine blk_alloc ?_ _)); exact BK129.out) hb); have n1_ := Aside0.mk (blk_below (g := gb138) (o := .cells #[.int .u64 t135, .int .u64 t136] 42 (0, 0)) (by (with_reducible repeat (first | refine blk_drewN ?_ _ | refine blk_drew ?_ | refine blk_alloc ?_ _)); refine blk_put (cs := #[.int .u64 t135, .int .u64 0]) ?_ 1 _ rfl; (with_reducible repeat (first | refine blk_drewN ?_ _ | refine blk_drew ?_ | refine blk_alloc ?_ _)); refine blk_put (cs := #[.int .u64 0, .int .u64 0]) ?_ 0 _ rfl; (with_reducible repeat (first | refine blk_drewN ?_ _ | refine blk_drew ?_ | refine blk_alloc ?_ _)); exact BK138.out) hb); have n2_ := Aside0.mk (below_step (by repeat (first | (with_reducible first | exact HB.out | apply below_alloc | apply pw_below_drewN | apply below_drew1 | refine below_set ?_ GE129.out | refine below_set ?_ GE138.out) | exact HB.out)) hb); clear BK129; clear BK138; clear HB; have BK129 := n0_; have BK138 := n1_; have HB := n2_; clear n0_ n1_ n2_; (try clear hb); (try clear hb2); (try clear hk); (try clear hi); have hcz99_0 : w98.cell? ⟨gb138, 0, none⟩ = some (.int .u64 t135) := (blk_cell BK138.out 0).trans rfl; have hcz99_1 : w98.cell? ⟨gb138, 1, none⟩ = some (.int .u64 t136) := (blk_cell BK138.out 1).trans rfl; have hfz99_0 := blk_frozen BK138.out 0; have hfz99_1 := blk_frozen BK138.out 1; have hcz100_0 : w98.cell? ⟨gb129, 0, none⟩ = some (.int .u64 a1_0) := (blk_cell BK129.out 0).trans rfl; have hcz100_1 : w98.cell? ⟨gb129, 1, none⟩ = some (.int .u64 a1_1) := (blk_cell BK129.out 1).trans rfl; have hfz100_0 := blk_frozen BK129.out 0; have hfz100_1 := blk_frozen BK129.out 1))
                go_meet
                case rel => exact ⟨_, (a3), (t135), (t136), (by first | rfl | (simp; done) | (simp [*]; done)), H', ⟨by have := HJ19.out; first | omega | exact Nat.le_refl _⟩, ⟨by (with_reducible repeat (first | refine blk_drewN ?_ _ | refine blk_drew ?_ | refine blk_alloc ?_ _)); refine blk_put (cs := #[.int .u64 t135, .int .u64 a1_1]) ?_ 1 _ rfl; (with_reducible repeat (first | refine blk_drewN ?_ _ | refine blk_drew ?_ | refine blk_alloc ?_ _)); refine blk_put (cs := #[.int .u64 a1_0, .int .u64 a1_1]) ?_ 0 _ rfl; (with_reducible repeat (first | refine blk_drewN ?_ _ | refine blk_drew ?_ | refine blk_alloc ?_ _)); exact BK129.out⟩, ⟨by repeat (first | (with_reducible first | exact HB.out | apply below_alloc | apply pw_below_drewN | apply below_drew1 | refine below_set ?_ GE129.out | refine below_set ?_ GE138.out) | exact HB.out)⟩⟩
          · rw [if_neg c30] at H
            have c30b0 : decide (0 < x10_19) = false := decide_eq_false c30
            clear c30
            (first | rw [c30b0] | (simp only [i64_w, i32_w]; rw [c30b0]) | skip)
            have HC101 := Aside0.mk H
            clear H
            go_upto_region 19 with (fail)
            go_cut [91] (fun v91 wc => ∃ (kq : Nat) (x91_100 : Bool), v91 = .bool x91_100 ∧ Aside0 (round_Round.j1 kq a0 ji6 x10_19 (decide ((wrap64 ((ji6) + t134)) < (-1021))) a3 x91_100 a1_0 a1_1 = some (r1, r2)) ∧ Aside0 (kq ≤ kj19) ∧ Aside0 (wc.heap[gb129]? = some (.cells #[.int .u64 a1_0, .int .u64 a1_1] 42 (0, 0))) ∧ Aside0 (Below w.heap.size w wc))
            case first =>
              have H := HC101.out
              clear HC101
              by_cases c102 : x10_19 < 0
              · rw [if_pos c102] at H
                have c102b0 : decide (x10_19 < 0) = true := decide_eq_true c102
                clear c102
                (first | rw [c102b0] | (simp only [i64_w, i32_w]; rw [c102b0]) | skip)
                have H' := Aside0.mk H
                clear H
                go_wp2
                go_meet
                case rel => exact ⟨_, (!a3), (by first | rfl | (simp; done) | (simp [*]; done)), H', ⟨by have := HJ19.out; first | omega | exact Nat.le_refl _⟩, ⟨by (with_reducible repeat (first | refine blk_drewN ?_ _ | refine blk_drew ?_ | refine blk_alloc ?_ _)); exact BK129.out⟩, ⟨by repeat (first | (with_reducible first | exact HB.out | apply below_alloc | apply pw_below_drewN | apply below_drew1 | refine below_set ?_ GE129.out) | exact HB.out)⟩⟩
              · rw [if_neg c102] at H
                have c102b0 : decide (x10_19 < 0) = false := decide_eq_false c102
                clear c102
                (first | rw [c102b0] | (simp only [i64_w, i32_w]; rw [c102b0]) | skip)
                have H' := Aside0.mk H
                clear H
                go_wp2
                go_meet
                case rel => exact ⟨_, (false), (by first | rfl | (simp; done) | (simp [*]; done)), H', ⟨by have := HJ19.out; first | omega | exact Nat.le_refl _⟩, ⟨by (with_reducible repeat (first | refine blk_drewN ?_ _ | refine blk_drew ?_ | refine blk_alloc ?_ _)); exact BK129.out⟩, ⟨by repeat (first | (with_reducible first | exact HB.out | apply below_alloc | apply pw_below_drewN | apply below_drew1 | refine below_set ?_ GE129.out) | exact HB.out)⟩⟩
            case rest =>
              clear HC101
              try clear c1
              try clear c2
              try clear p2
              try clear c3
              try clear c4
              try clear c5
              try clear c6
              try clear p6
              try clear c7
              try clear c8
              try clear c9
              try clear c10
              try clear c28
              try clear c28b0
              try clear c30
              try clear c30b0
              try clear c31
              try clear c32
              try clear c33
              try clear c34
              try clear c39
              try clear c47
              try clear c52
              try clear c54
              try clear c55
              try clear c56
              try clear c57
              try clear c58
              try clear c60
              try clear c60b0
              try clear c60b1
              try clear p64
              try clear c65
              try clear c76
              try clear c82
              try clear c86
              try clear c95
              try clear c102
              try clear c102b0
              try clear hcz100_0
              try clear hcz100_1
              try clear hcz12_0
              try clear hcz12_1
              try clear hcz16_0
              try clear hcz16_1
              try clear hcz22_0
              try clear hcz22_1
              try clear hcz24_0
              try clear hcz24_1
              try clear hcz26_0
              try clear hcz26_1
              try clear hcz36_0
              try clear hcz36_1
              try clear hcz40_0
              try clear hcz40_1
              try clear hcz41_0
              try clear hcz41_1
              try clear hcz43_0
              try clear hcz43_1
              try clear hcz44_0
              try clear hcz44_1
              try clear hcz46_0
              try clear hcz46_1
              try clear hcz49_0
              try clear hcz49_1
              try clear hcz53_0
              try clear hcz53_1
              try clear hcz54_0
              try clear hcz54_1
              try clear hcz56_0
              try clear hcz56_1
              try clear hcz57_0
              try clear hcz57_1
              try clear hcz59_0
              try clear hcz59_1
              try clear hcz62_0
              try clear hcz62_1
              try clear hcz66_0
              try clear hcz66_1
              try clear hcz67_0
              try clear hcz67_1
              try clear hcz69_0
              try clear hcz69_1
              try clear hcz70_0
              try clear hcz70_1
              try clear hcz72_0
              try clear hcz72_1
              try clear hcz73_0
              try clear hcz73_1
              try clear hcz77_0
              try clear hcz77_1
              try clear hcz78_0
              try clear hcz78_1
              try clear hcz80_0
              try clear hcz80_1
              try clear hcz81_0
              try clear hcz81_1
              try clear hcz83_0
              try clear hcz83_1
              try clear hcz87_0
              try clear hcz87_1
              try clear hcz88_0
              try clear hcz88_1
              try clear hcz90_0
              try clear hcz90_1
              try clear hcz91_0
              try clear hcz91_1
              try clear hcz92_0
              try clear hcz92_1
              try clear hcz96_0
              try clear hcz96_1
              try clear hcz97_0
              try clear hcz97_1
              try clear hcz99_0
              try clear hcz99_1
              try clear hfz100_0
              try clear hfz100_1
              try clear hfz12_0
              try clear hfz12_1
              try clear hfz16_0
              try clear hfz16_1
              try clear hfz22_0
              try clear hfz22_1
              try clear hfz24_0
              try clear hfz24_1
              try clear hfz26_0
              try clear hfz26_1
              try clear hfz36_0
              try clear hfz36_1
              try clear hfz40_0
              try clear hfz40_1
              try clear hfz41_0
              try clear hfz41_1
              try clear hfz43_0
              try clear hfz43_1
              try clear hfz44_0
              try clear hfz44_1
              try clear hfz46_0
              try clear hfz46_1
              try clear hfz49_0
              try clear hfz49_1
              try clear hfz53_0
              try clear hfz53_1
              try clear hfz54_0
              try clear hfz54_1
              try clear hfz56_0
              try clear hfz56_1
              try clear hfz57_0
              try clear hfz57_1
              try clear hfz59_0
              try clear hfz59_1
              try clear hfz62_0
              try clear hfz62_1
              try clear hfz66_0
              try clear hfz66_1
              try clear hfz67_0
              try clear hfz67_1
              try clear hfz69_0
              try clear hfz69_1
              try clear hfz70_0
              try clear hfz70_1
              try clear hfz72_0
              try clear hfz72_1
              try clear hfz73_0
              try clear hfz73_1
              try clear hfz77_0
              try clear hfz77_1
              try clear hfz78_0
              try clear hfz78_1
              try clear hfz80_0
              try clear hfz80_1
              try clear hfz81_0
              try clear hfz81_1
              try clear hfz83_0
              try clear hfz83_1
              try clear hfz87_0
              try clear hfz87_1
              try clear hfz88_0
              try clear hfz88_1
              try clear hfz90_0
              try clear hfz90_1
              try clear hfz91_0
              try clear hfz91_1
              try clear hfz92_0
              try clear hfz92_1
              try clear hfz96_0
              try clear hfz96_1
              try clear hfz97_0
              try clear hfz97_1
              try clear hfz99_0
              try clear hfz99_1
              try clear p2
              try clear p6
              obtain ⟨kq, x91_100, rfl, HA, HJ100, BK129, HB⟩ := hcut
              cases kq with
              | zero => exact absurd HA.out (by simp [round_Round.j1])
              | succ kj100 =>
                have H := HA.out
                clear HA
                simp only [round_Round.j1] at H
                by_cases c103 : x91_100 = true
                · subst c103
                  have H1 : ((wide_Wide_Left.f a1_0 a1_1 (wrap64 (-x10_19))).bind fun bt150 => (round_Round.j2 kj100 a0 ji6 x10_19 (decide ((wrap64 ((ji6) + t134)) < (-1021))) a3 bt150.1 bt150.2)) = some (r1, r2) := by rw [if_pos rfl] at H; exact H
                  clear H
                  have H := H1
                  clear H1
                  replace H := Option.bind_eq_some_iff.mp H
                  obtain ⟨⟨t150, t151⟩, A1040, H⟩ := H
                  replace H : (round_Round.j2 kj100 a0 ji6 x10_19 (decide ((wrap64 ((ji6) + t134)) < (-1021))) a3 t150 t151) = some (r1, r2) := H
                  have A104 := Aside0.mk A1040
                  clear A1040
                  have H' := Aside0.mk H
                  clear H
                  have hcz105_0 : wc.cell? ⟨gb129, 0, none⟩ = some (.int .u64 a1_0) := (blk_cell BK129.out 0).trans rfl
                  have hcz105_1 : wc.cell? ⟨gb129, 1, none⟩ = some (.int .u64 a1_1) := (blk_cell BK129.out 1).trans rfl
                  have hfz105_0 := blk_frozen BK129.out 0
                  have hfz105_1 := blk_frozen BK129.out 1
                  go_wp2_with (first | ((with_reducible refine gate_callee (f := 40) rfl ?_); refine goesL_ (some 95) rfl rfl Try.func40 (by kernel_rfl) rfl #[.agg #[.int .u64 a1_0, .int .u64 a1_1], .int .i64 (wrap64 (-x10_19))] rfl (by (try simp only [List.map_toArray, List.map_cons, List.map_nil]); first | done | rfl | (simp only [List.length_drop, List.length_take]; rfl)) ?_; (with_reducible refine (wide_Wide_Left.calls a1_0 a1_1 (wrap64 (-x10_19)) t150 t151 _ A104.out).mono ?_); rintro e w106 ⟨rfl, hb⟩; refine ⟨_, rfl, ?_⟩; have n0_ := Aside0.mk (blk_below (g := gb129) (o := .cells #[.int .u64 a1_0, .int .u64 a1_1] 42 (0, 0)) (by (with_reducible repeat (first | refine blk_drewN ?_ _ | refine blk_drew ?_ | refine blk_alloc ?_ _)); exact BK129.out) hb); have n1_ := Aside0.mk (below_step (by repeat (first | (with_reducible first | exact HB.out | apply below_alloc | apply pw_below_drewN | apply below_drew1 | refine below_set ?_ GE129.out) | exact HB.out)) hb); clear BK129; clear HB; have BK129 := n0_; have HB := n1_; clear n0_ n1_; (try clear hb); (try clear hb2); (try clear hk); (try clear hi); have hcz107_0 : w106.cell? ⟨gb129, 0, none⟩ = some (.int .u64 a1_0) := (blk_cell BK129.out 0).trans rfl; have hcz107_1 : w106.cell? ⟨gb129, 1, none⟩ = some (.int .u64 a1_1) := (blk_cell BK129.out 1).trans rfl; have hfz107_0 := blk_frozen BK129.out 0; have hfz107_1 := blk_frozen BK129.out 1))
                  go_meet
                  case rel => exact ⟨_, (a3), (t150), (t151), (by first | rfl | (simp; done) | (simp [*]; done)), H', ⟨by have := HJ19.out; have := HJ100.out; first | omega | exact Nat.le_refl _⟩, ⟨by (with_reducible repeat (first | refine blk_drewN ?_ _ | refine blk_drew ?_ | refine blk_alloc ?_ _)); refine blk_put (cs := #[.int .u64 t150, .int .u64 a1_1]) ?_ 1 _ rfl; (with_reducible repeat (first | refine blk_drewN ?_ _ | refine blk_drew ?_ | refine blk_alloc ?_ _)); refine blk_put (cs := #[.int .u64 a1_0, .int .u64 a1_1]) ?_ 0 _ rfl; (with_reducible repeat (first | refine blk_drewN ?_ _ | refine blk_drew ?_ | refine blk_alloc ?_ _)); exact BK129.out⟩, ⟨by repeat (first | (with_reducible first | exact HB.out | apply below_alloc | apply pw_below_drewN | apply below_drew1 | refine below_set ?_ GE129.out) | exact HB.out)⟩⟩
                · replace c103 := Bool.eq_false_iff.mpr c103
                  subst c103
                  have H1 : (if x10_19 < 0 then ((wide_Wide_Left.f a1_0 a1_1 (wrap64 (-x10_19))).bind fun bt152 => (round_Round.j2 kj100 a0 ji6 x10_19 (decide ((wrap64 ((ji6) + t134)) < (-1021))) a3 bt152.1 bt152.2)) else (round_Round.j2 kj100 a0 ji6 x10_19 (decide ((wrap64 ((ji6) + t134)) < (-1021))) a3 a1_0 a1_1)) = some (r1, r2) := by rw [if_neg (show ¬ (false = true) by decide)] at H; exact H
                  clear H
                  have H := H1
                  clear H1
                  by_cases c108 : x10_19 < 0
                  · rw [if_pos c108] at H
                    have c108b0 : decide (x10_19 < 0) = true := decide_eq_true c108
                    clear c108
                    replace H := Option.bind_eq_some_iff.mp H
                    obtain ⟨⟨t152, t153⟩, A1090, H⟩ := H
                    replace H : (round_Round.j2 kj100 a0 ji6 x10_19 (decide ((wrap64 ((ji6) + t134)) < (-1021))) a3 t152 t153) = some (r1, r2) := H
                    have A109 := Aside0.mk A1090
                    clear A1090
                    have H' := Aside0.mk H
                    clear H
                    have hcz110_0 : wc.cell? ⟨gb129, 0, none⟩ = some (.int .u64 a1_0) := (blk_cell BK129.out 0).trans rfl
                    have hcz110_1 : wc.cell? ⟨gb129, 1, none⟩ = some (.int .u64 a1_1) := (blk_cell BK129.out 1).trans rfl
                    have hfz110_0 := blk_frozen BK129.out 0
                    have hfz110_1 := blk_frozen BK129.out 1
                    go_wp2_with (first | ((with_reducible refine gate_callee (f := 40) rfl ?_); refine goesL_ (some 101) rfl rfl Try.func40 (by kernel_rfl) rfl #[.agg #[.int .u64 a1_0, .int .u64 a1_1], .int .i64 (wrap64 (-x10_19))] rfl (by (try simp only [List.map_toArray, List.map_cons, List.map_nil]); first | done | rfl | (simp only [List.length_drop, List.length_take]; rfl)) ?_; (with_reducible refine (wide_Wide_Left.calls a1_0 a1_1 (wrap64 (-x10_19)) t152 t153 _ A109.out).mono ?_); rintro e w111 ⟨rfl, hb⟩; refine ⟨_, rfl, ?_⟩; have n0_ := Aside0.mk (blk_below (g := gb129) (o := .cells #[.int .u64 a1_0, .int .u64 a1_1] 42 (0, 0)) (by (with_reducible repeat (first | refine blk_drewN ?_ _ | refine blk_drew ?_ | refine blk_alloc ?_ _)); exact BK129.out) hb); have n1_ := Aside0.mk (below_step (by repeat (first | (with_reducible first | exact HB.out | apply below_alloc | apply pw_below_drewN | apply below_drew1 | refine below_set ?_ GE129.out) | exact HB.out)) hb); clear BK129; clear HB; have BK129 := n0_; have HB := n1_; clear n0_ n1_; (try clear hb); (try clear hb2); (try clear hk); (try clear hi); have hcz112_0 : w111.cell? ⟨gb129, 0, none⟩ = some (.int .u64 a1_0) := (blk_cell BK129.out 0).trans rfl; have hcz112_1 : w111.cell? ⟨gb129, 1, none⟩ = some (.int .u64 a1_1) := (blk_cell BK129.out 1).trans rfl; have hfz112_0 := blk_frozen BK129.out 0; have hfz112_1 := blk_frozen BK129.out 1))
                    go_meet
                    case rel => exact ⟨_, (a3), (t152), (t153), (by first | rfl | (simp; done) | (simp [*]; done)), H', ⟨by have := HJ19.out; have := HJ100.out; first | omega | exact Nat.le_refl _⟩, ⟨by (with_reducible repeat (first | refine blk_drewN ?_ _ | refine blk_drew ?_ | refine blk_alloc ?_ _)); refine blk_put (cs := #[.int .u64 t152, .int .u64 a1_1]) ?_ 1 _ rfl; (with_reducible repeat (first | refine blk_drewN ?_ _ | refine blk_drew ?_ | refine blk_alloc ?_ _)); refine blk_put (cs := #[.int .u64 a1_0, .int .u64 a1_1]) ?_ 0 _ rfl; (with_reducible repeat (first | refine blk_drewN ?_ _ | refine blk_drew ?_ | refine blk_alloc ?_ _)); exact BK129.out⟩, ⟨by repeat (first | (with_reducible first | exact HB.out | apply below_alloc | apply pw_below_drewN | apply below_drew1 | refine below_set ?_ GE129.out) | exact HB.out)⟩⟩
                  · rw [if_neg c108] at H
                    have c108b0 : decide (x10_19 < 0) = false := decide_eq_false c108
                    clear c108
                    have H' := Aside0.mk H
                    clear H
                    go_wp2
                    go_meet
                    case rel => exact ⟨_, (a3), (a1_0), (a1_1), (by first | rfl | (simp; done) | (simp [*]; done)), H', ⟨by have := HJ19.out; have := HJ100.out; first | omega | exact Nat.le_refl _⟩, ⟨by (with_reducible repeat (first | refine blk_drewN ?_ _ | refine blk_drew ?_ | refine blk_alloc ?_ _)); exact BK129.out⟩, ⟨by repeat (first | (with_reducible first | exact HB.out | apply below_alloc | apply pw_below_drewN | apply below_drew1 | refine below_set ?_ GE129.out) | exact HB.out)⟩⟩
        case rest =>
          clear HC29
          try clear c1
          try clear c2
          try clear p2
          try clear c3
          try clear c4
          try clear c5
          try clear c6
          try clear p6
          try clear c7
          try clear c8
          try clear c9
          try clear c10
          try clear c28
          try clear c28b0
          try clear c30
          try clear c30b0
          try clear c31
          try clear c32
          try clear c33
          try clear c34
          try clear c39
          try clear c40
          try clear c47
          try clear c52
          try clear c54
          try clear c55
          try clear c56
          try clear c57
          try clear c58
          try clear c60
          try clear c60b0
          try clear c60b1
          try clear p64
          try clear c65
          try clear c76
          try clear c82
          try clear c86
          try clear c95
          try clear c102
          try clear c102b0
          try clear c103
          try clear c108
          try clear c108b0
          try clear hcz100_0
          try clear hcz100_1
          try clear hcz105_0
          try clear hcz105_1
          try clear hcz107_0
          try clear hcz107_1
          try clear hcz110_0
          try clear hcz110_1
          try clear hcz112_0
          try clear hcz112_1
          try clear hcz12_0
          try clear hcz12_1
          try clear hcz16_0
          try clear hcz16_1
          try clear hcz22_0
          try clear hcz22_1
          try clear hcz24_0
          try clear hcz24_1
          try clear hcz26_0
          try clear hcz26_1
          try clear hcz36_0
          try clear hcz36_1
          try clear hcz40_0
          try clear hcz40_1
          try clear hcz41_0
          try clear hcz41_1
          try clear hcz43_0
          try clear hcz43_1
          try clear hcz44_0
          try clear hcz44_1
          try clear hcz46_0
          try clear hcz46_1
          try clear hcz49_0
          try clear hcz49_1
          try clear hcz53_0
          try clear hcz53_1
          try clear hcz54_0
          try clear hcz54_1
          try clear hcz56_0
          try clear hcz56_1
          try clear hcz57_0
          try clear hcz57_1
          try clear hcz59_0
          try clear hcz59_1
          try clear hcz62_0
          try clear hcz62_1
          try clear hcz66_0
          try clear hcz66_1
          try clear hcz67_0
          try clear hcz67_1
          try clear hcz69_0
          try clear hcz69_1
          try clear hcz70_0
          try clear hcz70_1
          try clear hcz72_0
          try clear hcz72_1
          try clear hcz73_0
          try clear hcz73_1
          try clear hcz77_0
          try clear hcz77_1
          try clear hcz78_0
          try clear hcz78_1
          try clear hcz80_0
          try clear hcz80_1
          try clear hcz81_0
          try clear hcz81_1
          try clear hcz83_0
          try clear hcz83_1
          try clear hcz87_0
          try clear hcz87_1
          try clear hcz88_0
          try clear hcz88_1
          try clear hcz90_0
          try clear hcz90_1
          try clear hcz91_0
          try clear hcz91_1
          try clear hcz92_0
          try clear hcz92_1
          try clear hcz96_0
          try clear hcz96_1
          try clear hcz97_0
          try clear hcz97_1
          try clear hcz99_0
          try clear hcz99_1
          try clear hfz100_0
          try clear hfz100_1
          try clear hfz105_0
          try clear hfz105_1
          try clear hfz107_0
          try clear hfz107_1
          try clear hfz110_0
          try clear hfz110_1
          try clear hfz112_0
          try clear hfz112_1
          try clear hfz12_0
          try clear hfz12_1
          try clear hfz16_0
          try clear hfz16_1
          try clear hfz22_0
          try clear hfz22_1
          try clear hfz24_0
          try clear hfz24_1
          try clear hfz26_0
          try clear hfz26_1
          try clear hfz36_0
          try clear hfz36_1
          try clear hfz40_0
          try clear hfz40_1
          try clear hfz41_0
          try clear hfz41_1
          try clear hfz43_0
          try clear hfz43_1
          try clear hfz44_0
          try clear hfz44_1
          try clear hfz46_0
          try clear hfz46_1
          try clear hfz49_0
          try clear hfz49_1
          try clear hfz53_0
          try clear hfz53_1
          try clear hfz54_0
          try clear hfz54_1
          try clear hfz56_0
          try clear hfz56_1
          try clear hfz57_0
          try clear hfz57_1
          try clear hfz59_0
          try clear hfz59_1
          try clear hfz62_0
          try clear hfz62_1
          try clear hfz66_0
          try clear hfz66_1
          try clear hfz67_0
          try clear hfz67_1
          try clear hfz69_0
          try clear hfz69_1
          try clear hfz70_0
          try clear hfz70_1
          try clear hfz72_0
          try clear hfz72_1
          try clear hfz73_0
          try clear hfz73_1
          try clear hfz77_0
          try clear hfz77_1
          try clear hfz78_0
          try clear hfz78_1
          try clear hfz80_0
          try clear hfz80_1
          try clear hfz81_0
          try clear hfz81_1
          try clear hfz83_0
          try clear hfz83_1
          try clear hfz87_0
          try clear hfz87_1
          try clear hfz88_0
          try clear hfz88_1
          try clear hfz90_0
          try clear hfz90_1
          try clear hfz91_0
          try clear hfz91_1
          try clear hfz92_0
          try clear hfz92_1
          try clear hfz96_0
          try clear hfz96_1
          try clear hfz97_0
          try clear hfz97_1
          try clear hfz99_0
          try clear hfz99_1
          try clear p2
          try clear p6
          try clear p64
          obtain ⟨kq, x12_28, x130000_28, x130001_28, rfl, HA, HJ28, BK129, HB⟩ := hcut
          cases kq with
          | zero => exact absurd HA.out (by simp [round_Round.j2])
          | succ kj28 =>
            have H := HA.out
            clear HA
            simp only [round_Round.j2] at H
            have HC113 := Aside0.mk H
            clear H
            have hcz114_0 : wc.cell? ⟨gb129, 0, none⟩ = some (.int .u64 x130000_28) := (blk_cell BK129.out 0).trans rfl
            have hcz114_1 : wc.cell? ⟨gb129, 1, none⟩ = some (.int .u64 x130001_28) := (blk_cell BK129.out 1).trans rfl
            have hfz114_0 := blk_frozen BK129.out 0
            have hfz114_1 := blk_frozen BK129.out 1
            go_upto_if 108 with (fail)
            go_cut [2, 16] (fun v2 v16 wc => ∃ (kq : Nat) (x2_112 : Int) (x16_112 : Int), v2 = .int .i64 x2_112 ∧ v16 = .int .u64 x16_112 ∧ Aside0 (round_Round.j3 kq a0 x2_112 (decide ((wrap64 ((ji6) + t134)) < (-1021))) x12_28 x16_112 = some (r1, r2)) ∧ Aside0 (kq ≤ kj28) ∧ Aside0 (wc.heap[gb129]? = some (.cells #[.int .u64 x130000_28, .int .u64 x130001_28] 42 (0, 0))) ∧ Aside0 (Below w.heap.size w wc))
            case first =>
              have H := HC113.out
              clear HC113
              by_cases c115 : x130001_28 = 9007199254740992
              · rw [if_pos c115] at H
                have c115b0 : (x130001_28 == 9007199254740992) = true := beq_iff_eq.mpr c115
                have c115b1 : (x130001_28 != 9007199254740992) = false := bne_eq_false_iff_eq.mpr c115
                clear c115
                (first | rw [c115b0] | (simp only [i64_w, i32_w]; rw [c115b0]) | skip)
                have H' := Aside0.mk H
                clear H
                go_wp2
                go_meet
                case rel => exact ⟨_, (wrap64 ((wrap64 (ji6 + x10_19)) + 1)), (x130001_28 / 2), (by first | rfl | (simp; done) | (simp only [← hji6] <;> (first | rfl | simp)) | (simp [*]; done)), (by first | rfl | (simp; done) | (simp [*]; done)), H', ⟨by have := HJ19.out; have := HJ28.out; first | omega | exact Nat.le_refl _⟩, ⟨by (with_reducible repeat (first | refine blk_drewN ?_ _ | refine blk_drew ?_ | refine blk_alloc ?_ _)); exact BK129.out⟩, ⟨by repeat (first | (with_reducible first | exact HB.out | apply below_alloc | apply pw_below_drewN | apply below_drew1 | refine below_set ?_ GE129.out) | exact HB.out)⟩⟩
              · rw [if_neg c115] at H
                have c115b0 : (x130001_28 == 9007199254740992) = false := beq_eq_false_iff_ne.mpr c115
                have c115b1 : (x130001_28 != 9007199254740992) = true := bne_iff_ne.mpr c115
                (first | rw [c115b0] | (simp only [i64_w, i32_w]; rw [c115b0]) | skip)
                have H' := Aside0.mk H
                clear H
                go_wp2
                go_meet
                case rel => exact ⟨_, (wrap64 (ji6 + x10_19)), (x130001_28), (by first | rfl | (simp; done) | (simp only [← hji6] <;> (first | rfl | simp)) | (simp [*]; done)), (by first | rfl | (simp; done) | (simp [*]; done)), H', ⟨by have := HJ19.out; have := HJ28.out; first | omega | exact Nat.le_refl _⟩, ⟨by (with_reducible repeat (first | refine blk_drewN ?_ _ | refine blk_drew ?_ | refine blk_alloc ?_ _)); exact BK129.out⟩, ⟨by repeat (first | (with_reducible first | exact HB.out | apply below_alloc | apply pw_below_drewN | apply below_drew1 | refine below_set ?_ GE129.out) | exact HB.out)⟩⟩
            case rest =>
              clear HC113
              try clear c1
              try clear c2
              try clear p2
              try clear c3
              try clear c4
              try clear c5
              try clear c6
              try clear p6
              try clear c7
              try clear c8
              try clear c9
              try clear c10
              try clear c11
              try clear c28
              try clear c28b0
              try clear c30
              try clear c30b0
              try clear c31
              try clear c32
              try clear c33
              try clear c34
              try clear c39
              try clear c40
              try clear c47
              try clear c52
              try clear c54
              try clear c55
              try clear c56
              try clear c57
              try clear c58
              try clear c60
              try clear c60b0
              try clear c60b1
              try clear p64
              try clear c65
              try clear c76
              try clear c82
              try clear c86
              try clear c95
              try clear c102
              try clear c102b0
              try clear c103
              try clear c108
              try clear c108b0
              try clear c115
              try clear c115b0
              try clear c115b1
              try clear hcz100_0
              try clear hcz100_1
              try clear hcz105_0
              try clear hcz105_1
              try clear hcz107_0
              try clear hcz107_1
              try clear hcz110_0
              try clear hcz110_1
              try clear hcz112_0
              try clear hcz112_1
              try clear hcz114_0
              try clear hcz114_1
              try clear hcz12_0
              try clear hcz12_1
              try clear hcz16_0
              try clear hcz16_1
              try clear hcz22_0
              try clear hcz22_1
              try clear hcz24_0
              try clear hcz24_1
              try clear hcz26_0
              try clear hcz26_1
              try clear hcz36_0
              try clear hcz36_1
              try clear hcz40_0
              try clear hcz40_1
              try clear hcz41_0
              try clear hcz41_1
              try clear hcz43_0
              try clear hcz43_1
              try clear hcz44_0
              try clear hcz44_1
              try clear hcz46_0
              try clear hcz46_1
              try clear hcz49_0
              try clear hcz49_1
              try clear hcz53_0
              try clear hcz53_1
              try clear hcz54_0
              try clear hcz54_1
              try clear hcz56_0
              try clear hcz56_1
              try clear hcz57_0
              try clear hcz57_1
              try clear hcz59_0
              try clear hcz59_1
              try clear hcz62_0
              try clear hcz62_1
              try clear hcz66_0
              try clear hcz66_1
              try clear hcz67_0
              try clear hcz67_1
              try clear hcz69_0
              try clear hcz69_1
              try clear hcz70_0
              try clear hcz70_1
              try clear hcz72_0
              try clear hcz72_1
              try clear hcz73_0
              try clear hcz73_1
              try clear hcz77_0
              try clear hcz77_1
              try clear hcz78_0
              try clear hcz78_1
              try clear hcz80_0
              try clear hcz80_1
              try clear hcz81_0
              try clear hcz81_1
              try clear hcz83_0
              try clear hcz83_1
              try clear hcz87_0
              try clear hcz87_1
              try clear hcz88_0
              try clear hcz88_1
              try clear hcz90_0
              try clear hcz90_1
              try clear hcz91_0
              try clear hcz91_1
              try clear hcz92_0
              try clear hcz92_1
              try clear hcz96_0
              try clear hcz96_1
              try clear hcz97_0
              try clear hcz97_1
              try clear hcz99_0
              try clear hcz99_1
              try clear hfz100_0
              try clear hfz100_1
              try clear hfz105_0
              try clear hfz105_1
              try clear hfz107_0
              try clear hfz107_1
              try clear hfz110_0
              try clear hfz110_1
              try clear hfz112_0
              try clear hfz112_1
              try clear hfz114_0
              try clear hfz114_1
              try clear hfz12_0
              try clear hfz12_1
              try clear hfz16_0
              try clear hfz16_1
              try clear hfz22_0
              try clear hfz22_1
              try clear hfz24_0
              try clear hfz24_1
              try clear hfz26_0
              try clear hfz26_1
              try clear hfz36_0
              try clear hfz36_1
              try clear hfz40_0
              try clear hfz40_1
              try clear hfz41_0
              try clear hfz41_1
              try clear hfz43_0
              try clear hfz43_1
              try clear hfz44_0
              try clear hfz44_1
              try clear hfz46_0
              try clear hfz46_1
              try clear hfz49_0
              try clear hfz49_1
              try clear hfz53_0
              try clear hfz53_1
              try clear hfz54_0
              try clear hfz54_1
              try clear hfz56_0
              try clear hfz56_1
              try clear hfz57_0
              try clear hfz57_1
              try clear hfz59_0
              try clear hfz59_1
              try clear hfz62_0
              try clear hfz62_1
              try clear hfz66_0
              try clear hfz66_1
              try clear hfz67_0
              try clear hfz67_1
              try clear hfz69_0
              try clear hfz69_1
              try clear hfz70_0
              try clear hfz70_1
              try clear hfz72_0
              try clear hfz72_1
              try clear hfz73_0
              try clear hfz73_1
              try clear hfz77_0
              try clear hfz77_1
              try clear hfz78_0
              try clear hfz78_1
              try clear hfz80_0
              try clear hfz80_1
              try clear hfz81_0
              try clear hfz81_1
              try clear hfz83_0
              try clear hfz83_1
              try clear hfz87_0
              try clear hfz87_1
              try clear hfz88_0
              try clear hfz88_1
              try clear hfz90_0
              try clear hfz90_1
              try clear hfz91_0
              try clear hfz91_1
              try clear hfz92_0
              try clear hfz92_1
              try clear hfz96_0
              try clear hfz96_1
              try clear hfz97_0
              try clear hfz97_1
              try clear hfz99_0
              try clear hfz99_1
              try clear p2
              try clear p6
              try clear p64
              obtain ⟨kq, x2_112, x16_112, rfl, rfl, HA, HJ112, BK129, HB⟩ := hcut
              cases kq with
              | zero => exact absurd HA.out (by simp [round_Round.j3])
              | succ kj112 =>
                have H := HA.out
                clear HA
                simp only [round_Round.j3] at H
                have HC116 := Aside0.mk H
                clear H
                go_upto_if 113 with (fail)
                go_cut [17] (fun v17 wc => ∃ (kq : Nat) (x17_115 : Int), v17 = .int .u8 x17_115 ∧ Aside0 (round_Round.j4 kq a0 x2_112 x16_112 x17_115 = some (r1, r2)) ∧ Aside0 (kq ≤ kj112) ∧ Aside0 (wc.heap[gb129]? = some (.cells #[.int .u64 x130000_28, .int .u64 x130001_28] 42 (0, 0))) ∧ Aside0 (Below w.heap.size w wc))
                case first =>
                  have H := HC116.out
                  clear HC116
                  by_cases c117 : x12_28 = true
                  · subst c117
                    have H1 : (if (decide ((wrap64 ((ji6) + t134)) < (-1021))) = true then (round_Round.j4 kj112 a0 x2_112 x16_112 (Go.bits .or .u8 (Go.bits .or .u8 0 1) 2)) else (round_Round.j4 kj112 a0 x2_112 x16_112 (Go.bits .or .u8 0 1))) = some (r1, r2) := by rw [if_pos rfl] at H; exact H
                    clear H
                    have H := H1
                    clear H1
                    generalize hq118 : (decide ((wrap64 ((ji6) + t134)) < (-1021))) = tb118 at *
                    clear hq118
                    by_cases c118 : tb118 = true
                    · subst c118
                      rw [if_pos rfl] at H
                      have H' := Aside0.mk H
                      clear H
                      go_wp2
                      go_meet
                      case rel => exact ⟨_, (Go.bits .or .u8 (Go.bits .or .u8 0 1) 2), (by first | rfl | (simp; done) | (simp [*]; done)), H', ⟨by have := HJ19.out; have := HJ28.out; have := HJ112.out; first | omega | exact Nat.le_refl _⟩, ⟨by (with_reducible repeat (first | refine blk_drewN ?_ _ | refine blk_drew ?_ | refine blk_alloc ?_ _)); exact BK129.out⟩, ⟨by repeat (first | (with_reducible first | exact HB.out | apply below_alloc | apply pw_below_drewN | apply below_drew1 | refine below_set ?_ GE129.out) | exact HB.out)⟩⟩
                    · replace c118 := Bool.eq_false_iff.mpr c118
                      subst c118
                      rw [if_neg (by decide)] at H
                      have H' := Aside0.mk H
                      clear H
                      go_wp2
                      go_meet
                      case rel => exact ⟨_, (Go.bits .or .u8 0 1), (by first | rfl | (simp; done) | (simp [*]; done)), H', ⟨by have := HJ19.out; have := HJ28.out; have := HJ112.out; first | omega | exact Nat.le_refl _⟩, ⟨by (with_reducible repeat (first | refine blk_drewN ?_ _ | refine blk_drew ?_ | refine blk_alloc ?_ _)); exact BK129.out⟩, ⟨by repeat (first | (with_reducible first | exact HB.out | apply below_alloc | apply pw_below_drewN | apply below_drew1 | refine below_set ?_ GE129.out) | exact HB.out)⟩⟩
                  · replace c117 := Bool.eq_false_iff.mpr c117
                    subst c117
                    have H1 : (round_Round.j4 kj112 a0 x2_112 x16_112 0) = some (r1, r2) := by rw [if_neg (show ¬ (false = true) by decide)] at H; exact H
                    clear H
                    have H := H1
                    clear H1
                    have H' := Aside0.mk H
                    clear H
                    go_wp2
                    go_meet
                    case rel => exact ⟨_, (0), (by first | rfl | (simp; done) | (simp [*]; done)), H', ⟨by have := HJ19.out; have := HJ28.out; have := HJ112.out; first | omega | exact Nat.le_refl _⟩, ⟨by (with_reducible repeat (first | refine blk_drewN ?_ _ | refine blk_drew ?_ | refine blk_alloc ?_ _)); exact BK129.out⟩, ⟨by repeat (first | (with_reducible first | exact HB.out | apply below_alloc | apply pw_below_drewN | apply below_drew1 | refine below_set ?_ GE129.out) | exact HB.out)⟩⟩
                case rest =>
                  clear HC116
                  try clear c1
                  try clear c2
                  try clear p2
                  try clear c3
                  try clear c4
                  try clear c5
                  try clear c6
                  try clear p6
                  try clear c7
                  try clear c8
                  try clear c9
                  try clear c10
                  try clear c11
                  try clear c28
                  try clear c28b0
                  try clear c30
                  try clear c30b0
                  try clear c31
                  try clear c32
                  try clear c33
                  try clear c34
                  try clear c39
                  try clear c40
                  try clear c47
                  try clear c52
                  try clear c54
                  try clear c55
                  try clear c56
                  try clear c57
                  try clear c58
                  try clear c60
                  try clear c60b0
                  try clear c60b1
                  try clear p64
                  try clear c65
                  try clear c76
                  try clear c82
                  try clear c86
                  try clear c95
                  try clear c102
                  try clear c102b0
                  try clear c103
                  try clear c108
                  try clear c108b0
                  try clear c115
                  try clear c115b0
                  try clear c115b1
                  try clear c117
                  try clear c118
                  try clear c118b0
                  try clear hcz100_0
                  try clear hcz100_1
                  try clear hcz105_0
                  try clear hcz105_1
                  try clear hcz107_0
                  try clear hcz107_1
                  try clear hcz110_0
                  try clear hcz110_1
                  try clear hcz112_0
                  try clear hcz112_1
                  try clear hcz114_0
                  try clear hcz114_1
                  try clear hcz12_0
                  try clear hcz12_1
                  try clear hcz16_0
                  try clear hcz16_1
                  try clear hcz22_0
                  try clear hcz22_1
                  try clear hcz24_0
                  try clear hcz24_1
                  try clear hcz26_0
                  try clear hcz26_1
                  try clear hcz36_0
                  try clear hcz36_1
                  try clear hcz40_0
                  try clear hcz40_1
                  try clear hcz41_0
                  try clear hcz41_1
                  try clear hcz43_0
                  try clear hcz43_1
                  try clear hcz44_0
                  try clear hcz44_1
                  try clear hcz46_0
                  try clear hcz46_1
                  try clear hcz49_0
                  try clear hcz49_1
                  try clear hcz53_0
                  try clear hcz53_1
                  try clear hcz54_0
                  try clear hcz54_1
                  try clear hcz56_0
                  try clear hcz56_1
                  try clear hcz57_0
                  try clear hcz57_1
                  try clear hcz59_0
                  try clear hcz59_1
                  try clear hcz62_0
                  try clear hcz62_1
                  try clear hcz66_0
                  try clear hcz66_1
                  try clear hcz67_0
                  try clear hcz67_1
                  try clear hcz69_0
                  try clear hcz69_1
                  try clear hcz70_0
                  try clear hcz70_1
                  try clear hcz72_0
                  try clear hcz72_1
                  try clear hcz73_0
                  try clear hcz73_1
                  try clear hcz77_0
                  try clear hcz77_1
                  try clear hcz78_0
                  try clear hcz78_1
                  try clear hcz80_0
                  try clear hcz80_1
                  try clear hcz81_0
                  try clear hcz81_1
                  try clear hcz83_0
                  try clear hcz83_1
                  try clear hcz87_0
                  try clear hcz87_1
                  try clear hcz88_0
                  try clear hcz88_1
                  try clear hcz90_0
                  try clear hcz90_1
                  try clear hcz91_0
                  try clear hcz91_1
                  try clear hcz92_0
                  try clear hcz92_1
                  try clear hcz96_0
                  try clear hcz96_1
                  try clear hcz97_0
                  try clear hcz97_1
                  try clear hcz99_0
                  try clear hcz99_1
                  try clear hfz100_0
                  try clear hfz100_1
                  try clear hfz105_0
                  try clear hfz105_1
                  try clear hfz107_0
                  try clear hfz107_1
                  try clear hfz110_0
                  try clear hfz110_1
                  try clear hfz112_0
                  try clear hfz112_1
                  try clear hfz114_0
                  try clear hfz114_1
                  try clear hfz12_0
                  try clear hfz12_1
                  try clear hfz16_0
                  try clear hfz16_1
                  try clear hfz22_0
                  try clear hfz22_1
                  try clear hfz24_0
                  try clear hfz24_1
                  try clear hfz26_0
                  try clear hfz26_1
                  try clear hfz36_0
                  try clear hfz36_1
                  try clear hfz40_0
                  try clear hfz40_1
                  try clear hfz41_0
                  try clear hfz41_1
                  try clear hfz43_0
                  try clear hfz43_1
                  try clear hfz44_0
                  try clear hfz44_1
                  try clear hfz46_0
                  try clear hfz46_1
                  try clear hfz49_0
                  try clear hfz49_1
                  try clear hfz53_0
                  try clear hfz53_1
                  try clear hfz54_0
                  try clear hfz54_1
                  try clear hfz56_0
                  try clear hfz56_1
                  try clear hfz57_0
                  try clear hfz57_1
                  try clear hfz59_0
                  try clear hfz59_1
                  try clear hfz62_0
                  try clear hfz62_1
                  try clear hfz66_0
                  try clear hfz66_1
                  try clear hfz67_0
                  try clear hfz67_1
                  try clear hfz69_0
                  try clear hfz69_1
                  try clear hfz70_0
                  try clear hfz70_1
                  try clear hfz72_0
                  try clear hfz72_1
                  try clear hfz73_0
                  try clear hfz73_1
                  try clear hfz77_0
                  try clear hfz77_1
                  try clear hfz78_0
                  try clear hfz78_1
                  try clear hfz80_0
                  try clear hfz80_1
                  try clear hfz81_0
                  try clear hfz81_1
                  try clear hfz83_0
                  try clear hfz83_1
                  try clear hfz87_0
                  try clear hfz87_1
                  try clear hfz88_0
                  try clear hfz88_1
                  try clear hfz90_0
                  try clear hfz90_1
                  try clear hfz91_0
                  try clear hfz91_1
                  try clear hfz92_0
                  try clear hfz92_1
                  try clear hfz96_0
                  try clear hfz96_1
                  try clear hfz97_0
                  try clear hfz97_1
                  try clear hfz99_0
                  try clear hfz99_1
                  try clear p2
                  try clear p6
                  try clear p64
                  obtain ⟨kq, x17_115, rfl, HA, HJ115, BK129, HB⟩ := hcut
                  cases kq with
                  | zero => exact absurd HA.out (by simp [round_Round.j4])
                  | succ kj115 =>
                    have H := HA.out
                    clear HA
                    simp only [round_Round.j4] at H
                    by_cases c119 : x16_112 < 4503599627370496
                    · rw [if_pos c119] at H
                      have c119b0 : decide (x16_112 < 4503599627370496) = true := decide_eq_true c119
                      clear c119
                      replace H := Option.bind_eq_some_iff.mp H
                      obtain ⟨t154, A1200, H⟩ := H
                      replace H : (some (t154, x17_115)) = some (r1, r2) := H
                      have A120 := Aside0.mk A1200
                      clear A1200
                      simp only [Option.some.injEq, Prod.mk.injEq] at H
                      obtain ⟨rfl, rfl⟩ := H
                      go_wp2_with (first | ((with_reducible refine gate_callee (f := 54) rfl ?_); refine goesL_ (some 124) rfl rfl Try.func54 (by kernel_rfl) rfl #[.bool a0, .int .i64 0, .int .u64 x16_112] rfl (by (try simp only [List.map_toArray, List.map_cons, List.map_nil]); first | done | rfl | (simp only [List.length_drop, List.length_take]; rfl)) ?_; (with_reducible refine (word_Make.calls a0 0 x16_112 t154 _ A120.out).mono ?_); rintro e w' ⟨rfl, ⟨nd, rfl⟩⟩; refine ⟨_, rfl, ?_⟩))
                      go_ret2
                      exact ⟨by first | rfl | (simp [errW_none, errW_some] <;> rfl) | (simp only [← hji5, ← hji6]; first | rfl | (simp [errW_none, errW_some] <;> rfl)) | (simp [*, errW_none, errW_some] <;> rfl), by repeat (first | (with_reducible first | exact HB.out | apply below_alloc | apply pw_below_drewN | apply below_drew1 | refine below_set ?_ GE129.out) | exact HB.out)⟩
                    · rw [if_neg c119] at H
                      have c119b0 : decide (x16_112 < 4503599627370496) = false := decide_eq_false c119
                      clear c119
                      by_cases c121 : (wrap64 (x2_112 + 1075)) ≥ 2047
                      · rw [if_pos c121] at H
                        have c121b0 : decide (2047 ≤ (wrap64 (x2_112 + 1075))) = true := decide_eq_true c121
                        clear c121
                        replace H := Option.bind_eq_some_iff.mp H
                        obtain ⟨t155, A1220, H⟩ := H
                        replace H : (some (t155, Go.bits .or .u8 (Go.bits .or .u8 x17_115 4) 1)) = some (r1, r2) := H
                        have A122 := Aside0.mk A1220
                        clear A1220
                        simp only [Option.some.injEq, Prod.mk.injEq] at H
                        obtain ⟨rfl, rfl⟩ := H
                        go_wp2_with (first | ((with_reducible refine gate_callee (f := 54) rfl ?_); refine goesL_ (some 131) rfl rfl Try.func54 (by kernel_rfl) rfl #[.bool a0, .int .i64 2047, .int .u64 0] rfl (by (try simp only [List.map_toArray, List.map_cons, List.map_nil]); first | done | rfl | (simp only [List.length_drop, List.length_take]; rfl)) ?_; (with_reducible refine (word_Make.calls a0 2047 0 t155 _ A122.out).mono ?_); rintro e w' ⟨rfl, ⟨nd, rfl⟩⟩; refine ⟨_, rfl, ?_⟩))
                        go_ret2
                        exact ⟨by first | rfl | (simp [errW_none, errW_some] <;> rfl) | (simp only [← hji5, ← hji6]; first | rfl | (simp [errW_none, errW_some] <;> rfl)) | (simp [*, errW_none, errW_some] <;> rfl), by repeat (first | (with_reducible first | exact HB.out | apply below_alloc | apply pw_below_drewN | apply below_drew1 | refine below_set ?_ GE129.out) | exact HB.out)⟩
                      · rw [if_neg c121] at H
                        have c121b0 : decide (2047 ≤ (wrap64 (x2_112 + 1075))) = false := decide_eq_false c121
                        clear c121
                        replace H := Option.bind_eq_some_iff.mp H
                        obtain ⟨t156, A1230, H⟩ := H
                        replace H : (some (t156, x17_115)) = some (r1, r2) := H
                        have A123 := Aside0.mk A1230
                        clear A1230
                        simp only [Option.some.injEq, Prod.mk.injEq] at H
                        obtain ⟨rfl, rfl⟩ := H
                        go_wp2_with (first | ((with_reducible refine gate_callee (f := 54) rfl ?_); refine goesL_ (some 139) rfl rfl Try.func54 (by kernel_rfl) rfl #[.bool a0, .int .i64 (wrap64 (x2_112 + 1075)), .int .u64 x16_112] rfl (by (try simp only [List.map_toArray, List.map_cons, List.map_nil]); first | done | rfl | (simp only [List.length_drop, List.length_take]; rfl)) ?_; (with_reducible refine (word_Make.calls a0 (wrap64 (x2_112 + 1075)) x16_112 t156 _ A123.out).mono ?_); rintro e w' ⟨rfl, ⟨nd, rfl⟩⟩; refine ⟨_, rfl, ?_⟩))
                        go_ret2
                        exact ⟨by first | rfl | (simp [errW_none, errW_some] <;> rfl) | (simp only [← hji5, ← hji6]; first | rfl | (simp [errW_none, errW_some] <;> rfl)) | (simp [*, errW_none, errW_some] <;> rfl), by repeat (first | (with_reducible first | exact HB.out | apply below_alloc | apply pw_below_drewN | apply below_drew1 | refine below_set ?_ GE129.out) | exact HB.out)⟩

end Go.Proofs.Ytlnpcbhbcmhbkaa.QRoundNear
