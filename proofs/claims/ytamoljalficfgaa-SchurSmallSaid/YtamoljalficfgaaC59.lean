/- The law SchurSmall, in the small machine. -/
import Derived.Test.YtamoljalficfgaaC58
import Derived.Test.YtamoljalficfgaaC14
set_option linter.unusedSimpArgs false
set_option linter.unusedVariables false
set_option pp.deepTerms false
set_option pp.maxSteps 1500
set_option maxRecDepth 10000
set_option maxHeartbeats 16000000
namespace Go.Proofs.Ytamoljalficfgaa.M
open Go Go.Proofs

theorem quasi_true {n : Int} {p z : Nat} {D : List Int} (h : MatOk n n D) (hI : InD D) {N : Nat} (hN : D.length = N) (hQ : IsH n n D ∧ Qb n D) {H : MH} {rw : Bool} (hp : hget H p = some ⟨D.map u64, rw⟩) :
    Spec Try.prog 9 [mx n n n p N z, i64 0] H fun v H' => v = bl true ∧ H' = H := by
  have := quasi_spec h hI hN (z := z) hp
  rwa [bo_t hQ] at this
theorem ssmall {a b c d : Int} (ha : InU a) (hb : InU b) (hc : InU c) (hd : InU d) (H : MH) :
    Spec Try.prog 6 [u64 a, u64 b, u64 c, u64 d] H fun u H' => u = bl true ∧ H' = H := by
  have hM : MatOk 2 2 [a, b, c, d] := ⟨by decide, by decide, by decide, by decide, rfl⟩
  have hMI : InD [a, b, c, d] := by
    intro x hx
    simp only [List.mem_cons, List.not_mem_nil, or_false] at hx
    rcases hx with rfl | rfl | rfl | rfl <;> assumption
  have hO : MatOk 1 1 [a] := ⟨by decide, by decide, by decide, by decide, rfl⟩
  have hOI : InD [a] := by
    intro x hx
    simp only [List.mem_cons, List.not_mem_nil, or_false] at hx
    rcases hx with rfl; assumption
  have hE : MatOk 0 0 ([] : List Int) := ⟨by decide, by decide, by decide, by decide, rfl⟩
  have hEI : InD ([] : List Int) := by intro x hx; cases hx
  have hn2 : ∀ H, Spec Try.prog 16 [i64 2, i64 2] H fun v H' => v = mx 2 2 2 H.length 4 4 ∧ H' = H ++ [some ⟨[u64 0, u64 0, u64 0, u64 0], true⟩] := fun H => new_spec 2 2 (by decide) (by decide) H
  have hn1 : ∀ H, Spec Try.prog 16 [i64 1, i64 1] H fun v H' => v = mx 1 1 1 H.length 1 1 ∧ H' = H ++ [some ⟨[u64 0], true⟩] := fun H => new_spec 1 1 (by decide) (by decide) H
  have hn0 : ∀ H, Spec Try.prog 16 [i64 0, i64 0] H fun v H' => v = mx 0 0 0 H.length 0 0 ∧ H' = H ++ [some ⟨[], true⟩] := fun H => new_spec 0 0 (by decide) (by decide) H
  have z4 : ((4 : Nat) : Int) = 4 := _root_.id rfl
  have z1 : ((1 : Nat) : Int) = 1 := _root_.id rfl
  have z0 : ((0 : Nat) : Int) = 0 := _root_.id rfl
  have hd2 : ∀ (L : MH), hget (H ++ some ⟨[u64 a, u64 b, u64 c, u64 d], true⟩ :: L) H.length = some ⟨[a, b, c, d].map u64, true⟩ := fun L => hget_new'
  have hd1 : ∀ (x y : Option MO) (L : MH), hget (H ++ x :: y :: some ⟨[u64 a], true⟩ :: L) (H.length + 2) = some ⟨[a].map u64, true⟩ := fun x y L => hget_newL rfl
  refine Spec.scalar (enterS Try.func6 [.tmp 8] ?_)
  repeat' first | (with_reducible (show W _ _ _ _ _); with_reducible refine go2 ?_) | (with_reducible (show W _ _ _ _ _); with_reducible refine sg2 ?_ ?_ <;> intro _) | (with_reducible (show CallK _ _ _ _ _ _ _ _ _ _ _); with_reducible refine ce2 (head19_spec _) ?_) | (with_reducible (show W _ _ (.code (.region 16 _ true) :: _) _ _); with_reducible refine W_draw [(0, []), (1, []), (2, []), (3, []), (4, []), (5, []), (6, []), (7, []), (8, []), (9, []), (10, []), (11, []), (12, []), (13, []), (14, []), (15, []), (16, []), (17, []), (18, []), (19, []), (20, []), (21, []), (22, []), (23, []), (24, []), (25, []), (26, []), (27, []), (28, []), (29, []), (30, []), (31, [30]), (32, []), (33, []), (34, []), (35, []), (36, []), (37, []), (38, []), (39, []), (40, []), (41, []), (42, []), (43, []), (44, [])] [30] (by kernel_rfl) ?_) | ((with_reducible (show CallK _ _ _ _ _ _ _ _ _ _ _); first | (with_reducible refine cm2 (hn2 _) ?_) | (with_reducible refine cm2 (hn1 _) ?_)))
  repeat' first | (with_reducible (show W _ _ _ _ _); with_reducible refine go2 ?_) | (with_reducible (show W _ _ _ _ _); with_reducible refine sg2 ?_ ?_ <;> intro _) | (with_reducible (show CallK _ _ _ _ _ _ _ _ _ _ _); with_reducible refine ce2 (finite_mspec hM rfl (hd2 _)) ?_) | (with_reducible (show W _ _ (.code (.region 16 _ true) :: _) _ _); with_reducible refine W_draw [(0, []), (1, []), (2, []), (3, []), (4, []), (5, []), (6, []), (7, []), (8, []), (9, []), (10, []), (11, []), (12, []), (13, []), (14, []), (15, []), (16, []), (17, []), (18, []), (19, []), (20, []), (21, []), (22, []), (23, []), (24, []), (25, []), (26, []), (27, []), (28, []), (29, []), (30, []), (31, [30]), (32, []), (33, []), (34, []), (35, []), (36, []), (37, []), (38, []), (39, []), (40, []), (41, []), (42, []), (43, []), (44, [])] [30] (by kernel_rfl) ?_)
  refine sc2 ?_ ?_ <;> intro hf
  · repeat' first | (with_reducible (show W _ _ _ _ _); with_reducible refine go2 ?_) | (with_reducible (show W _ _ _ _ _); with_reducible refine sg2 ?_ ?_ <;> intro _) | (with_reducible (show W _ _ _ _ _); with_reducible refine sc2 ?_ ?_ <;> intro _) | (with_reducible (show W _ _ (.code (.region 16 _ true) :: _) _ _); with_reducible refine W_draw [(0, []), (1, []), (2, []), (3, []), (4, []), (5, []), (6, []), (7, []), (8, []), (9, []), (10, []), (11, []), (12, []), (13, []), (14, []), (15, []), (16, []), (17, []), (18, []), (19, []), (20, []), (21, []), (22, []), (23, []), (24, []), (25, []), (26, []), (27, []), (28, []), (29, []), (30, []), (31, [30]), (32, []), (33, []), (34, []), (35, []), (36, []), (37, []), (38, []), (39, []), (40, []), (41, []), (42, []), (43, []), (44, [])] [30] (by kernel_rfl) ?_)
    all_goals trivial
  have hf2 : finD [a, b, c, d] = true := by simpa using hf
  have hf1 : finD [a] = true := by
    simp only [finD, List.all_cons, List.all_nil, Bool.and_eq_true, Bool.and_true] at hf2 ⊢
    exact hf2.1
  clear hf
  repeat' first | (with_reducible (show W _ _ _ _ _); with_reducible refine go2 ?_) | (with_reducible (show W _ _ _ _ _); with_reducible refine sg2 ?_ ?_ <;> intro _) | (with_reducible (show W _ _ (.code (.region 16 _ true) :: _) _ _); with_reducible refine W_draw [(0, []), (1, []), (2, []), (3, []), (4, []), (5, []), (6, []), (7, []), (8, []), (9, []), (10, []), (11, []), (12, []), (13, []), (14, []), (15, []), (16, []), (17, []), (18, []), (19, []), (20, []), (21, []), (22, []), (23, []), (24, []), (25, []), (26, []), (27, []), (28, []), (29, []), (30, []), (31, [30]), (32, []), (33, []), (34, []), (35, []), (36, []), (37, []), (38, []), (39, []), (40, []), (41, []), (42, []), (43, []), (44, [])] [30] (by kernel_rfl) ?_)
  (with_reducible (show CallK _ _ _ _ _ _ _ _ _ _ _)); with_reducible refine cx2 (of_small hM hMI (by decide) rfl (hd2 _) hf2) ?_
  rintro u' C ⟨S2, ⟨s1, _, s2, s3⟩, rfl, rfl⟩
  repeat' first | (with_reducible (show W _ _ _ _ _); with_reducible refine go2 ?_) | (with_reducible (show W _ _ _ _ _); with_reducible refine sg2 ?_ ?_ <;> intro _) | (with_reducible (show W _ _ (.code (.region 16 _ true) :: _) _ _); with_reducible refine W_draw [(0, []), (1, []), (2, []), (3, []), (4, []), (5, []), (6, []), (7, []), (8, []), (9, []), (10, []), (11, []), (12, []), (13, []), (14, []), (15, []), (16, []), (17, []), (18, []), (19, []), (20, []), (21, []), (22, []), (23, []), (24, []), (25, []), (26, []), (27, []), (28, []), (29, []), (30, []), (31, [30]), (32, []), (33, []), (34, []), (35, []), (36, []), (37, []), (38, []), (39, []), (40, []), (41, []), (42, []), (43, []), (44, [])] [30] (by kernel_rfl) ?_)
  (with_reducible (show CallK _ _ _ _ _ _ _ _ _ _ _)); with_reducible refine cx2 (of_small hO hOI (by decide) rfl (hd1 _ _ _) hf1) ?_
  rintro u' C ⟨S1, ⟨t1, t2, _, _⟩, rfl, rfl⟩
  have ht := t2 (by decide)
  obtain ⟨A1, B1⟩ := S1
  injection ht with ht1 ht2
  subst ht1 ht2
  repeat' first | (with_reducible (show W _ _ _ _ _); with_reducible refine go2 ?_) | (with_reducible (show W _ _ _ _ _); with_reducible refine sg2 ?_ ?_ <;> intro _) | (with_reducible (show W _ _ (.code (.region 16 _ true) :: _) _ _); with_reducible refine W_draw [(0, []), (1, []), (2, []), (3, []), (4, []), (5, []), (6, []), (7, []), (8, []), (9, []), (10, []), (11, []), (12, []), (13, []), (14, []), (15, []), (16, []), (17, []), (18, []), (19, []), (20, []), (21, []), (22, []), (23, []), (24, []), (25, []), (26, []), (27, []), (28, []), (29, []), (30, []), (31, [30]), (32, []), (33, []), (34, []), (35, []), (36, []), (37, []), (38, []), (39, []), (40, []), (41, []), (42, []), (43, []), (44, [])] [30] (by kernel_rfl) ?_) | ((with_reducible (show CallK _ _ _ _ _ _ _ _ _ _ _); first | (with_reducible refine cm2 (unit_mspec hO hOI rfl (hd1 _ _ _)) ?_) | (with_reducible refine cm2 (hn0 _) ?_)))
  have hd0 : ∀ (x0 x1 x2 x3 x4 x5 x6 x7 x8 x9 x10 x11 : Option MO) (L : MH), hget (H ++ x0 :: x1 :: x2 :: x3 :: x4 :: x5 :: x6 :: x7 :: x8 :: x9 :: x10 :: x11 :: some ⟨[], true⟩ :: L) (H.length + 12) = some ⟨([] : List Int).map u64, true⟩ := fun _ _ _ _ _ _ _ _ _ _ _ _ L => hget_newL rfl
  (with_reducible (show CallK _ _ _ _ _ _ _ _ _ _ _)); with_reducible refine cx2 (of_small hE hEI (by decide) rfl (hd0 _ _ _ _ _ _ _ _ _ _ _ _ _) rfl) ?_
  rintro u' C ⟨S0, ⟨v1, _, _, _⟩, rfl, rfl⟩
  have hu1 := unitD_len 1 1 [a]
  have hQ : ∀ (x0 x1 x2 x3 : Option MO) (L : MH), Spec Try.prog 9 [mx 2 2 2 (H.length + 4) 4 4, i64 0] (H ++ x0 :: x1 :: x2 :: x3 :: some ⟨S2.1.map u64, true⟩ :: L) fun v H' => v = bl true ∧ H' = H ++ x0 :: x1 :: x2 :: x3 :: some ⟨S2.1.map u64, true⟩ :: L := fun _ _ _ _ L => quasi_true s1.a s1.b s1.a.len ⟨s2, s3⟩ (hget_newL rfl)
  have hSa : ∀ (x0 x1 x2 x3 x4 x5 x6 x8 x9 : Option MO) (L : MH), Spec Try.prog 24 [mx 1 1 1 (H.length + 7) 1 1, mx 1 1 1 (H.length + 10) 1 1] (H ++ x0 :: x1 :: x2 :: x3 :: x4 :: x5 :: x6 :: some ⟨(unitD 1 1 [a]).map u64, true⟩ :: x8 :: x9 :: some ⟨(unitD 1 1 [a]).map u64, true⟩ :: L) fun v H' => v = bl true ∧ H' = H ++ x0 :: x1 :: x2 :: x3 :: x4 :: x5 :: x6 :: some ⟨(unitD 1 1 [a]).map u64, true⟩ :: x8 :: x9 :: some ⟨(unitD 1 1 [a]).map u64, true⟩ :: L := fun _ _ _ _ _ _ _ _ _ L => same_spec (unitD_ok hO) (hget_newL rfl) (hget_newL rfl) hu1
  repeat' first | (with_reducible (show W _ _ _ _ _); with_reducible refine go2 ?_) | (with_reducible (show W _ _ _ _ _); with_reducible refine sg2 ?_ ?_ <;> intro _) | (with_reducible (show CallK _ _ _ _ _ _ _ _ _ _ _); with_reducible refine ce2 (hQ _ _ _ _ _) ?_) | (with_reducible (show CallK _ _ _ _ _ _ _ _ _ _ _); with_reducible refine ce2 (hSa _ _ _ _ _ _ _ _ _ _) ?_) | (with_reducible (show W _ _ (.code (.region 16 _ true) :: _) _ _); with_reducible refine W_draw [(0, []), (1, []), (2, []), (3, []), (4, []), (5, []), (6, []), (7, []), (8, []), (9, []), (10, []), (11, []), (12, []), (13, []), (14, []), (15, []), (16, []), (17, []), (18, []), (19, []), (20, []), (21, []), (22, []), (23, []), (24, []), (25, []), (26, []), (27, []), (28, []), (29, []), (30, []), (31, [30]), (32, []), (33, []), (34, []), (35, []), (36, []), (37, []), (38, []), (39, []), (40, []), (41, []), (42, []), (43, []), (44, [])] [30] (by kernel_rfl) ?_) | ((with_reducible (show CallK _ _ _ _ _ _ _ _ _ _ _); first | (with_reducible refine cm2 (one_spec (n := 1) (by decide) _) ?_)))
  have ho1 := (oneM_ok (n := 1) (by decide)).len
  (with_reducible (show CallK _ _ _ _ _ _ _ _ _ _ _)); with_reducible refine cm2 (same_spec (rw := true) (rw' := true) (oneM_ok (n := 1) (by decide)) ?_ ?_ ho1) ?_
  · show hget _ (H.length + 8) = _
    exact hget_newL rfl
  · exact hget_newL rfl
  repeat' first | (with_reducible (show W _ _ _ _ _); with_reducible refine go2 ?_) | (with_reducible (show W _ _ _ _ _); with_reducible refine sg2 ?_ ?_ <;> intro _) | (with_reducible (show W _ _ (.code (.region 16 _ true) :: _) _ _); with_reducible refine W_draw [(0, []), (1, []), (2, []), (3, []), (4, []), (5, []), (6, []), (7, []), (8, []), (9, []), (10, []), (11, []), (12, []), (13, []), (14, []), (15, []), (16, []), (17, []), (18, []), (19, []), (20, []), (21, []), (22, []), (23, []), (24, []), (25, []), (26, []), (27, []), (28, []), (29, []), (30, []), (31, [30]), (32, []), (33, []), (34, []), (35, []), (36, []), (37, []), (38, []), (39, []), (40, []), (41, []), (42, []), (43, []), (44, [])] [30] (by kernel_rfl) ?_)
  all_goals trivial
end Go.Proofs.Ytamoljalficfgaa.M
