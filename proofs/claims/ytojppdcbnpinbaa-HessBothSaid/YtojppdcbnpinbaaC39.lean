/- The law HessBoth, in the small machine. -/
import Derived.Test.YtojppdcbnpinbaaC38
set_option linter.unusedSimpArgs false
set_option linter.unusedVariables false
set_option maxRecDepth 10000
set_option maxHeartbeats 8000000
namespace Go.Proofs.Ytojppdcbnpinbaa.M
open Go Go.Proofs

theorem cap_of {μ : Mu} {u : MV} {k : IntKind} {w : World} {a : Option Addr} {len cap : Nat} {zs : List Int} (hc : conc μ u = .slice a len cap) (hw : IsRow k w a len cap zs) : ∀ p o n c z, u = .slice p o n c z → n ≤ c := by
  rintro p o n c z rfl
  simp only [conc, Value.slice.injEq] at hc
  obtain ⟨_, rfl, rfl⟩ := hc
  rcases hw with ⟨_, h1, h2, _⟩ | ⟨_, _, h, _⟩ <;> omega
theorem hboth (n : Int) {v y : MV} {xs ys : List Int} {H : MH} (hv : Sl H v xs) (hI : InD xs) (hy : Sl H y ys) (hIy : InD ys) (hcap : ∀ p o n c z, y = .slice p o n c z → n ≤ c) (m : Int) : Spec Try.prog 4 [i64 n, v, y, i64 m] H fun u H' => u = bl true ∧ H' = H := by
  have hlen22 := len22 hv
  have hlen23 := len22 hy
  have h7 := and7 n
  refine Spec.scalar (enterS Try.func4 [.tmp 8] ?_)
  repeat' first | (with_reducible (show W _ _ _ _ _); with_reducible refine go2 ?_) | (with_reducible (show W _ _ _ _ _); with_reducible refine sg2 ?_ ?_ <;> intro _) | (with_reducible (show W _ _ _ _ _); with_reducible refine sc2 ?_ ?_ <;> intro _) | (with_reducible (show CallK _ _ _ _ _ _ _ _ _ _ _); with_reducible refine ce2 (head17_spec _) ?_) | (with_reducible (show W _ _ (.code (.region 10 _ true) :: _) _ _); with_reducible refine W_draw [(0, []), (1, []), (3, []), (4, []), (9, []), (10, []), (2, [0, 3, 9, 10]), (5, [9, 10]), (6, []), (7, []), (8, []), (11, []), (12, [])] [0, 3, 9, 10] (by kernel_rfl) ?_) | (with_reducible (show W _ _ (.code (.region 13 _ true) :: _) _ _); with_reducible refine W_draw [(0, []), (1, []), (2, []), (3, []), (4, []), (5, []), (6, [4]), (7, []), (8, []), (9, [])] [4] (by kernel_rfl) ?_) | (with_reducible (show W _ _ (.code (.region 15 _ true) :: _) _ _); with_reducible refine W_draw [(0, []), (1, []), (3, []), (8, []), (2, [0, 8]), (4, [8]), (5, []), (6, []), (7, []), (9, []), (10, [])] [0, 8] (by kernel_rfl) ?_)
  all_goals try trivial
  rename_i hx8 hy8
  generalize hrr : bits .and .i64 n 7 = r at h7
  have hr : 0 ≤ r ∧ r ≤ 4096 := by omega
  generalize hN : (r * r).toNat = N
  have hD1 := made_ok hr xs 0 N
  have hD2 := made_in (n := r) hI 0 N
  have hmade := made_spec hr hv 0 hN
  generalize madeM r xs 0 N = D at hD1 hD2 hmade
  have hl := hD1.len.trans hN
  by_cases hbad : ys.length = 0 ∨ finL ys = false
  · repeat' first | (with_reducible (show W _ _ _ _ _); with_reducible refine go2 ?_) | (with_reducible (show W _ _ _ _ _); with_reducible refine sg2 ?_ ?_ <;> intro _) | (with_reducible (show W _ _ _ _ _); with_reducible refine sc2 ?_ ?_ <;> intro _) | (with_reducible (show W _ _ (.code (.region 10 _ true) :: _) _ _); with_reducible refine W_draw [(0, []), (1, []), (3, []), (4, []), (9, []), (10, []), (2, [0, 3, 9, 10]), (5, [9, 10]), (6, []), (7, []), (8, []), (11, []), (12, [])] [0, 3, 9, 10] (by kernel_rfl) ?_) | (with_reducible (show W _ _ (.code (.region 13 _ true) :: _) _ _); with_reducible refine W_draw [(0, []), (1, []), (2, []), (3, []), (4, []), (5, []), (6, [4]), (7, []), (8, []), (9, [])] [4] (by kernel_rfl) ?_) | (with_reducible (show W _ _ (.code (.region 15 _ true) :: _) _ _); with_reducible refine W_draw [(0, []), (1, []), (3, []), (8, []), (2, [0, 8]), (4, [8]), (5, []), (6, []), (7, []), (9, []), (10, [])] [0, 8] (by kernel_rfl) ?_) | ((with_reducible (show CallK _ _ _ _ _ _ _ _ _ _ _); first | (with_reducible refine cm2 hmade ?_) | (with_reducible refine cx2 (hgen_err (hy.app _) (by omega) hbad) ?_; rintro u' H' ⟨⟨b, e⟩, he, rfl, rfl⟩; have he' : (e = 0) = False := eq_false he)))
    all_goals trivial
  have hf : finL ys = true := by
    cases hh : finL ys
    · exact absurd (.inr hh) hbad
    · rfl
  have hy0 : 0 < ys.length := by
    rcases Nat.eq_zero_or_pos ys.length with h | h
    · exact absurd (.inl h) hbad
    · exact h
  rcases hy with ⟨rfl, _⟩ | ⟨p, o, c, ob, rfl, hp, hcell⟩
  · simp at hy0
  have hc := hcap _ _ _ _ _ rfl
  have hO := oneM_ok hr
  have hOI := oneM_in r
  have hOl : (oneM r).length = N := hO.len.trans hN
  have hone : ∀ H : MH, Spec Try.prog 24 [i64 r] H fun v H' => v = mx r r r H.length N N ∧ H' = H ++ [some ⟨(oneM r).map u64, true⟩] := fun H => by have := one_spec hr H; rw [hN] at this; exact this
  have h8 : ∀ L : MH, hget (H ++ L) (H.length + 7 + 1) = (L[8]?).join := fun L => hget_new (i := 8)
  have hd0 : ∀ (a : MO) (L : MH), hget (H ++ some a :: L) H.length = some a := fun a L => by unfold hget; simp
  repeat' first | (with_reducible (show W _ _ _ _ _); with_reducible refine go2 ?_) | (with_reducible (show W _ _ _ _ _); with_reducible refine sg2 ?_ ?_ <;> intro _) | (with_reducible (show W _ _ _ _ _); with_reducible refine sc2 ?_ ?_ <;> intro _) | (with_reducible (show W _ _ (.code (.region 10 _ true) :: _) _ _); with_reducible refine W_draw [(0, []), (1, []), (3, []), (4, []), (9, []), (10, []), (2, [0, 3, 9, 10]), (5, [9, 10]), (6, []), (7, []), (8, []), (11, []), (12, [])] [0, 3, 9, 10] (by kernel_rfl) ?_) | (with_reducible (show W _ _ (.code (.region 13 _ true) :: _) _ _); with_reducible refine W_draw [(0, []), (1, []), (2, []), (3, []), (4, []), (5, []), (6, [4]), (7, []), (8, []), (9, [])] [4] (by kernel_rfl) ?_) | (with_reducible (show W _ _ (.code (.region 15 _ true) :: _) _ _); with_reducible refine W_draw [(0, []), (1, []), (3, []), (8, []), (2, [0, 8]), (4, [8]), (5, []), (6, []), (7, []), (9, []), (10, [])] [0, 8] (by kernel_rfl) ?_) | ((with_reducible (show CallK _ _ _ _ _ _ _ _ _ _ _); with_reducible refine cm2 hmade ?_))
  (with_reducible (show CallK _ _ _ _ _ _ _ _ _ _ _)); with_reducible refine cx2 (hgen_ok (hget_appL hp) hcell hc (by omega) hf hIy) ?_
  rintro u' H' ⟨⟨V, tau, tc, tb, tf⟩, ⟨hVl, hVI, htc⟩, rfl, rfl⟩
  have hVl : V.length = ys.length := hVl
  have hVI : InD V := hVI
  rw [← hVl]
  have hvV : ∀ (a b : Option MO) (L : MH), Sl (H ++ a :: b :: some ⟨V.map u64, true⟩ :: L) (.slice (H.length + 2) 0 ys.length tc 1) V := fun a b L => .inr ⟨H.length + 2, 0, tc, _, by rw [hVl], hget_newL rfl, fun i hi => by simp [List.getD_eq_getElem?_getD, hi]⟩
  by_cases hrows : rowsB V.length r m = true
  · have hS1 := leftR_ok (V := V) (tau := tau) (m := m) (S := (D, 0)) ⟨hD1, hD2⟩
    have hA1 : MatOk r r (leftR r r V tau m (D, 0)).1 := hS1.1
    have hA2 : InD (leftR r r V tau m (D, 0)).1 := hS1.2
    have hAl := hA1.len.trans hN
    have hY := rightR_ok (V := V) (tau := tau) (m := m) hS1
    have hY1 : MatOk r r (rightR r r V tau m (leftR r r V tau m (D, 0))).1 := hY.1
    have hYl := hY1.len.trans hN
    have hZ := rightR_ok (V := V) (tau := tau) (m := m) (S := (oneM r, (rightR r r V tau m (leftR r r V tau m (D, 0))).2)) ⟨hO, hOI⟩
    have hZ1 : MatOk r r (rightR r r V tau m (oneM r, (rightR r r V tau m (leftR r r V tau m (D, 0))).2)).1 := hZ.1
    have hZl := hZ1.len.trans hN
    repeat' first | (with_reducible (show W _ _ _ _ _); with_reducible refine go2 ?_) | (with_reducible (show W _ _ _ _ _); with_reducible refine sg2 ?_ ?_ <;> intro _) | (with_reducible (show W _ _ _ _ _); with_reducible refine sc2 ?_ ?_ <;> intro _) | (with_reducible (show CallK _ _ _ _ _ _ _ _ _ _ _); with_reducible refine ce2 (same_spec hY1 (hget_newL rfl) (hget_newL rfl) hYl) ?_) | (with_reducible (show CallK _ _ _ _ _ _ _ _ _ _ _); with_reducible refine ce2 (same_spec hZ1 (h8 _) (hget_newL rfl) hZl) ?_) | (with_reducible (show W _ _ (.code (.region 10 _ true) :: _) _ _); with_reducible refine W_draw [(0, []), (1, []), (3, []), (4, []), (9, []), (10, []), (2, [0, 3, 9, 10]), (5, [9, 10]), (6, []), (7, []), (8, []), (11, []), (12, [])] [0, 3, 9, 10] (by kernel_rfl) ?_) | (with_reducible (show W _ _ (.code (.region 13 _ true) :: _) _ _); with_reducible refine W_draw [(0, []), (1, []), (2, []), (3, []), (4, []), (5, []), (6, [4]), (7, []), (8, []), (9, [])] [4] (by kernel_rfl) ?_) | (with_reducible (show W _ _ (.code (.region 15 _ true) :: _) _ _); with_reducible refine W_draw [(0, []), (1, []), (3, []), (8, []), (2, [0, 8]), (4, [8]), (5, []), (6, []), (7, []), (9, []), (10, [])] [0, 8] (by kernel_rfl) ?_) | ((with_reducible (show CallK _ _ _ _ _ _ _ _ _ _ _); first | (with_reducible refine cm2 (hone _) ?_) | (with_reducible refine cm2 (both_okG hD1 hD2 hO hOI hl hOl (hd0 _ _) (hget_newL rfl) (hvV _ _ _) hVI _ _ hrows) ?_) | (with_reducible refine cm2 (left_n hD1 hD2 hl (hd0 _ _) (hvV _ _ _) hVI _ _ hrows 0) ?_) | (with_reducible refine cm2 (right_n hA1 hA2 hAl (hget_newL rfl) (hvV _ _ _) hVI _ _ hrows (leftR r r V tau m (D, 0)).2) ?_) | (with_reducible refine cm2 (right_n hO hOI hOl (hget_newL rfl) (hvV _ _ _) hVI _ _ hrows (rightR r r V tau m (leftR r r V tau m (D, 0))).2) ?_)))
    all_goals trivial
  · rw [Bool.not_eq_true] at hrows
    repeat' first | (with_reducible (show W _ _ _ _ _); with_reducible refine go2 ?_) | (with_reducible (show W _ _ _ _ _); with_reducible refine sg2 ?_ ?_ <;> intro _) | (with_reducible (show W _ _ _ _ _); with_reducible refine sc2 ?_ ?_ <;> intro _) | (with_reducible (show CallK _ _ _ _ _ _ _ _ _ _ _); with_reducible refine ce2 (same_spec hD1 (hd0 _ _) (hd0 _ _) hl) ?_) | (with_reducible (show CallK _ _ _ _ _ _ _ _ _ _ _); with_reducible refine ce2 (same_spec hO (hget_newL rfl) (hget_newL rfl) hOl) ?_) | (with_reducible (show W _ _ (.code (.region 10 _ true) :: _) _ _); with_reducible refine W_draw [(0, []), (1, []), (3, []), (4, []), (9, []), (10, []), (2, [0, 3, 9, 10]), (5, [9, 10]), (6, []), (7, []), (8, []), (11, []), (12, [])] [0, 3, 9, 10] (by kernel_rfl) ?_) | (with_reducible (show W _ _ (.code (.region 13 _ true) :: _) _ _); with_reducible refine W_draw [(0, []), (1, []), (2, []), (3, []), (4, []), (5, []), (6, [4]), (7, []), (8, []), (9, [])] [4] (by kernel_rfl) ?_) | (with_reducible (show W _ _ (.code (.region 15 _ true) :: _) _ _); with_reducible refine W_draw [(0, []), (1, []), (3, []), (8, []), (2, [0, 8]), (4, [8]), (5, []), (6, []), (7, []), (9, []), (10, [])] [0, 8] (by kernel_rfl) ?_) | ((with_reducible (show CallK _ _ _ _ _ _ _ _ _ _ _); first | (with_reducible refine cm2 (hone _) ?_) | (with_reducible refine cm2 (both_bad hD1 hO hl hOl (hd0 _ _) (hget_newL rfl) (hvV _ _ _) (by omega) _ _ hrows) ?_) | (with_reducible refine cm2 (left_bad hD1 hl _ (hvV _ _ _) _ _ hrows) ?_)))
    all_goals trivial
end Go.Proofs.Ytojppdcbnpinbaa.M
