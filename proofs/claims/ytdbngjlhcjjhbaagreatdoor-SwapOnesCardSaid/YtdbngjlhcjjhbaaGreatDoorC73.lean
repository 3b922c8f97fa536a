/- The law SwapTwice, in the small machine. -/
import Derived.Test.YtdbngjlhcjjhbaaGreatDoorC72
set_option linter.unusedSimpArgs false
set_option linter.unusedVariables false
set_option pp.deepTerms false
set_option pp.maxSteps 1500
set_option maxRecDepth 10000
set_option maxHeartbeats 16000000
namespace Go.Proofs.YtdbngjlhcjjhbaaGreatDoor.M
open Go Go.Proofs

theorem far_all {D : List Int} (hI : InD D) (hf : finD D = true) (h : farM D = false) : AllB D (pw 101) := by
  have hx : ∀ x ∈ D, Fn x := fun x hx => ⟨hI x hx, List.all_eq_true.1 hf x hx⟩
  intro x hxD
  refine ⟨hx x hxD, ?_⟩
  rcases power_val hx with ⟨_, _, h3⟩ | ⟨h1, _, h3, _, _⟩
  · rw [h3 x hxD]; exact pw_nn _
  · unfold farM at h
    rw [h1] at h
    simp at h
    exact Rat.le_of_lt (Std.lt_of_lt_of_le (h3 x hxD) (pw_le (by omega)))
theorem wtwice (n0 at0 : Int) {v : MV} {xs : List Int} {H : MH} (hv : Sl H v xs) (hI : InD xs) :
    Spec Tryz.prog 3 [i64 n0, v, i64 at0] H fun u H' => u = bl true ∧ H' = H := by
  have hlen22 := len22 hv
  have h7 := and7 n0
  refine Spec.scalar (enterS Tryz.func3 [.tmp 6] ?_)
  repeat' first | (with_reducible (show W _ _ _ _ _); with_reducible refine go2 ?_) | (with_reducible (show W _ _ _ _ _); with_reducible refine sg2 ?_ ?_ <;> intro _) | (with_reducible (show CallK _ _ _ _ _ _ _ _ _ _ _); with_reducible refine ce2 (head22_spec _) ?_) | (with_reducible (show W _ _ (.code (.region 9 _ true) :: _) _ _); with_reducible refine W_draw [(0, []), (1, []), (3, []), (9, []), (10, []), (2, [0, 9, 10]), (4, [9, 10]), (5, []), (6, []), (7, []), (8, []), (11, []), (12, []), (13, [])] [0, 9, 10] (by kernel_rfl) ?_) | (with_reducible (show W _ _ (.code (.region 18 _ true) :: _) _ _); with_reducible refine W_draw [(0, []), (1, []), (2, []), (4, []), (5, []), (6, []), (3, [4]), (7, []), (8, [])] [4] (by kernel_rfl) ?_) | (with_reducible (show W _ _ (.code (.region 20 _ true) :: _) _ _); with_reducible refine W_draw [(0, []), (1, []), (2, []), (3, []), (4, []), (5, []), (6, []), (7, []), (8, []), (10, []), (11, []), (12, []), (13, []), (9, [10]), (14, []), (15, []), (16, []), (17, [])] [10] (by kernel_rfl) ?_)
  refine sc2 ?_ ?_ <;> intro hl
  · repeat' first | (with_reducible (show W _ _ _ _ _); with_reducible refine go2 ?_) | (with_reducible (show W _ _ _ _ _); with_reducible refine sg2 ?_ ?_ <;> intro _) | (with_reducible (show W _ _ _ _ _); with_reducible refine sc2 ?_ ?_ <;> intro _) | (with_reducible (show W _ _ (.code (.region 9 _ true) :: _) _ _); with_reducible refine W_draw [(0, []), (1, []), (3, []), (9, []), (10, []), (2, [0, 9, 10]), (4, [9, 10]), (5, []), (6, []), (7, []), (8, []), (11, []), (12, []), (13, [])] [0, 9, 10] (by kernel_rfl) ?_) | (with_reducible (show W _ _ (.code (.region 18 _ true) :: _) _ _); with_reducible refine W_draw [(0, []), (1, []), (2, []), (4, []), (5, []), (6, []), (3, [4]), (7, []), (8, [])] [4] (by kernel_rfl) ?_) | (with_reducible (show W _ _ (.code (.region 20 _ true) :: _) _ _); with_reducible refine W_draw [(0, []), (1, []), (2, []), (3, []), (4, []), (5, []), (6, []), (7, []), (8, []), (10, []), (11, []), (12, []), (13, []), (9, [10]), (14, []), (15, []), (16, []), (17, [])] [10] (by kernel_rfl) ?_)
    all_goals trivial
  repeat' first | (with_reducible (show W _ _ _ _ _); with_reducible refine go2 ?_) | (with_reducible (show W _ _ _ _ _); with_reducible refine sg2 ?_ ?_ <;> intro _) | (with_reducible (show W _ _ (.code (.region 9 _ true) :: _) _ _); with_reducible refine W_draw [(0, []), (1, []), (3, []), (9, []), (10, []), (2, [0, 9, 10]), (4, [9, 10]), (5, []), (6, []), (7, []), (8, []), (11, []), (12, []), (13, [])] [0, 9, 10] (by kernel_rfl) ?_) | (with_reducible (show W _ _ (.code (.region 18 _ true) :: _) _ _); with_reducible refine W_draw [(0, []), (1, []), (2, []), (4, []), (5, []), (6, []), (3, [4]), (7, []), (8, [])] [4] (by kernel_rfl) ?_) | (with_reducible (show W _ _ (.code (.region 20 _ true) :: _) _ _); with_reducible refine W_draw [(0, []), (1, []), (2, []), (3, []), (4, []), (5, []), (6, []), (7, []), (8, []), (10, []), (11, []), (12, []), (13, []), (9, [10]), (14, []), (15, []), (16, []), (17, [])] [10] (by kernel_rfl) ?_)
  generalize bits .and .i64 n0 7 = r at h7
  obtain ⟨r, rfl⟩ := Int.eq_ofNat_of_zero_le h7.1
  have hr7 : r ≤ 7 := by omega
  obtain ⟨N, hN⟩ : ∃ N, r * r = N := ⟨_, rfl⟩
  (with_reducible (show CallK _ _ _ _ _ _ _ _ _ _ _)); with_reducible refine cx2 (upper0_spec r hr7 hv hI hN) ?_
  rintro u' C ⟨E, ⟨hE, hEI, hT⟩, rfl, rfl⟩
  have hNN : ((r : Int) * r).toNat = N := by rw [← hN]; exact_mod_cast Int.toNat_natCast (r * r)
  have hEl : E.length = N := by rw [hE.len, hNN]
  have hN49 : N ≤ 49 := by rw [← hN]; exact Nat.mul_le_mul hr7 hr7
  have hE0 : ∀ L : MH, hget (H ++ some ⟨E.map u64, true⟩ :: L) H.length = some ⟨E.map u64, true⟩ := fun L => hget_new'
  repeat' first | (with_reducible (show W _ _ _ _ _); with_reducible refine go2 ?_) | (with_reducible (show W _ _ _ _ _); with_reducible refine sg2 ?_ ?_ <;> intro _) | (with_reducible (show W _ _ (.code (.region 9 _ true) :: _) _ _); with_reducible refine W_draw [(0, []), (1, []), (3, []), (9, []), (10, []), (2, [0, 9, 10]), (4, [9, 10]), (5, []), (6, []), (7, []), (8, []), (11, []), (12, []), (13, [])] [0, 9, 10] (by kernel_rfl) ?_) | (with_reducible (show W _ _ (.code (.region 18 _ true) :: _) _ _); with_reducible refine W_draw [(0, []), (1, []), (2, []), (4, []), (5, []), (6, []), (3, [4]), (7, []), (8, [])] [4] (by kernel_rfl) ?_) | (with_reducible (show W _ _ (.code (.region 20 _ true) :: _) _ _); with_reducible refine W_draw [(0, []), (1, []), (2, []), (3, []), (4, []), (5, []), (6, []), (7, []), (8, []), (10, []), (11, []), (12, []), (13, []), (9, [10]), (14, []), (15, []), (16, []), (17, [])] [10] (by kernel_rfl) ?_)
  (with_reducible (show CallK _ _ _ _ _ _ _ _ _ _ _)); with_reducible refine ck2 (refused_spec hE hEI hEl (by omega) (hE0 _)) ?_
  intro e he
  have em : IntKind.i64.wrap ((r : Int) - 2) = (r : Int) - 2 := wrap_i64 (by omega)
  repeat' first | (with_reducible (show W _ _ _ _ _); with_reducible refine go2 ?_) | (with_reducible (show W _ _ _ _ _); with_reducible refine sg2 ?_ ?_ <;> intro _) | (with_reducible (show W _ _ (.code (.region 9 _ true) :: _) _ _); with_reducible refine W_draw [(0, []), (1, []), (3, []), (9, []), (10, []), (2, [0, 9, 10]), (4, [9, 10]), (5, []), (6, []), (7, []), (8, []), (11, []), (12, []), (13, [])] [0, 9, 10] (by kernel_rfl) ?_) | (with_reducible (show W _ _ (.code (.region 18 _ true) :: _) _ _); with_reducible refine W_draw [(0, []), (1, []), (2, []), (4, []), (5, []), (6, []), (3, [4]), (7, []), (8, [])] [4] (by kernel_rfl) ?_) | (with_reducible (show W _ _ (.code (.region 20 _ true) :: _) _ _); with_reducible refine W_draw [(0, []), (1, []), (2, []), (3, []), (4, []), (5, []), (6, []), (7, []), (8, []), (10, []), (11, []), (12, []), (13, []), (9, [10]), (14, []), (15, []), (16, []), (17, [])] [10] (by kernel_rfl) ?_)
  refine sc2 ?_ ?_ <;> intro ha0
  · repeat' first | (with_reducible (show W _ _ _ _ _); with_reducible refine go2 ?_) | (with_reducible (show W _ _ _ _ _); with_reducible refine sg2 ?_ ?_ <;> intro _) | (with_reducible (show W _ _ _ _ _); with_reducible refine sc2 ?_ ?_ <;> intro _) | (with_reducible (show W _ _ (.code (.region 9 _ true) :: _) _ _); with_reducible refine W_draw [(0, []), (1, []), (3, []), (9, []), (10, []), (2, [0, 9, 10]), (4, [9, 10]), (5, []), (6, []), (7, []), (8, []), (11, []), (12, []), (13, [])] [0, 9, 10] (by kernel_rfl) ?_) | (with_reducible (show W _ _ (.code (.region 18 _ true) :: _) _ _); with_reducible refine W_draw [(0, []), (1, []), (2, []), (4, []), (5, []), (6, []), (3, [4]), (7, []), (8, [])] [4] (by kernel_rfl) ?_) | (with_reducible (show W _ _ (.code (.region 20 _ true) :: _) _ _); with_reducible refine W_draw [(0, []), (1, []), (2, []), (3, []), (4, []), (5, []), (6, []), (7, []), (8, []), (10, []), (11, []), (12, []), (13, []), (9, [10]), (14, []), (15, []), (16, []), (17, [])] [10] (by kernel_rfl) ?_)
    all_goals trivial
  rename_i he0 ha1
  obtain ⟨hQ, hfE, hfar⟩ := he (by simpa using he0)
  clear he he0
  obtain ⟨a, rfl⟩ := Int.eq_ofNat_of_zero_le (Int.not_lt.1 ha1)
  have ha : ((a + 1 : Nat) : Int) < (r : Int) := by omega
  clear ha0 ha1 em
  have ea : IntKind.i64.wrap ((a : Int) + 1) = ((a + 1 : Nat) : Int) := by rw [wrap_i64 (by omega)]; omega
  have hn0 : 0 ≤ (r : Int) ∧ (r : Int) ≤ 4096 := by omega
  have hO0 := oneM_ok hn0
  have hO0l : (oneM (r : Int)).length = N := by rw [hO0.len, hNN]
  have hone0 : ∀ H, Spec Tryz.prog 10 [i64 (r : Int)] H fun v H' => v = mx r r r H.length N N ∧ H' = H ++ [some ⟨(oneM (r : Int)).map u64, true⟩] := fun H => by have := one_spec hn0 H; rw [hNN] at this; exact this
  have hb1 := one_bd ⟨r, by omega⟩
  have hBd : Bd E (oneM (r : Int)) := bd_of hfar hb1.2.1
  have tg : Tg (r : Int) E 101 := ⟨hE, far_all hEI hfE hfar, hT⟩
  have hrt : (r : Int).toNat = r := Int.toNat_natCast r
  have hv1 := ones_val tg ha (by omega)
  have hw1 := onesE_val tg (by omega) hO0 (one_all hn0.1) ha (by omega)
  have hf1 := (tg.one (by omega) ha).1
  have ho1 : ∀ (Hm : MH) (q : Nat), hget Hm H.length = some ⟨E.map u64, true⟩ → hget Hm q = some ⟨(oneM (r : Int)).map u64, true⟩ → Spec Tryz.prog 9 [mx r r r H.length N N, mx r r r q N N, i64 (a : Int)] Hm fun v H' => v = .tup [mx r r r Hm.length N N, mx r r r (Hm.length + 1) N N, i64 0] ∧ H' = Hm ++ [some ⟨(onesD r E a).map u64, true⟩, some ⟨(onesE r E (oneM (r : Int)) a).map u64, true⟩] :=
    fun Hm q h1 h2 => adj_one hE hO0 (by omega) hEI hT hfE hb1.1 hBd ha hf1 h1 h2 hNN
  repeat' first | (with_reducible (show W _ _ _ _ _); with_reducible refine go2 ?_) | (with_reducible (show W _ _ _ _ _); with_reducible refine sg2 ?_ ?_ <;> intro _) | (with_reducible (show W _ _ (.code (.region 9 _ true) :: _) _ _); with_reducible refine W_draw [(0, []), (1, []), (3, []), (9, []), (10, []), (2, [0, 9, 10]), (4, [9, 10]), (5, []), (6, []), (7, []), (8, []), (11, []), (12, []), (13, [])] [0, 9, 10] (by kernel_rfl) ?_) | (with_reducible (show W _ _ (.code (.region 18 _ true) :: _) _ _); with_reducible refine W_draw [(0, []), (1, []), (2, []), (4, []), (5, []), (6, []), (3, [4]), (7, []), (8, [])] [4] (by kernel_rfl) ?_) | (with_reducible (show W _ _ (.code (.region 20 _ true) :: _) _ _); with_reducible refine W_draw [(0, []), (1, []), (2, []), (3, []), (4, []), (5, []), (6, []), (7, []), (8, []), (10, []), (11, []), (12, []), (13, []), (9, [10]), (14, []), (15, []), (16, []), (17, [])] [10] (by kernel_rfl) ?_) | ((with_reducible (show CallK _ _ _ _ _ _ _ _ _ _ _); first | (with_reducible refine cm2 (hone0 _) ?_)))
  (with_reducible (show CallK _ _ _ _ _ _ _ _ _ _ _)); with_reducible refine cm2 (ho1 _ _ ?_ ?_) ?_
  · exact hget_new'
  · exact hget_newL rfl
  repeat' first | (with_reducible (show W _ _ _ _ _); with_reducible refine go2 ?_) | (with_reducible (show W _ _ _ _ _); with_reducible refine sg2 ?_ ?_ <;> intro _) | (with_reducible (show W _ _ (.code (.region 9 _ true) :: _) _ _); with_reducible refine W_draw [(0, []), (1, []), (3, []), (9, []), (10, []), (2, [0, 9, 10]), (4, [9, 10]), (5, []), (6, []), (7, []), (8, []), (11, []), (12, []), (13, [])] [0, 9, 10] (by kernel_rfl) ?_) | (with_reducible (show W _ _ (.code (.region 18 _ true) :: _) _ _); with_reducible refine W_draw [(0, []), (1, []), (2, []), (4, []), (5, []), (6, []), (3, [4]), (7, []), (8, [])] [4] (by kernel_rfl) ?_) | (with_reducible (show W _ _ (.code (.region 20 _ true) :: _) _ _); with_reducible refine W_draw [(0, []), (1, []), (2, []), (3, []), (4, []), (5, []), (6, []), (7, []), (8, []), (10, []), (11, []), (12, []), (13, []), (9, [10]), (14, []), (15, []), (16, []), (17, [])] [10] (by kernel_rfl) ?_)
  obtain ⟨tg1, d1, d2, d3, d4⟩ := hv1
  obtain ⟨hO1, hE1a⟩ := hw1
  clear hone0 ho1
  generalize onesE (r : Int) E (oneM (r : Int)) a = E1 at hO1 hE1a ⊢
  generalize onesD (r : Int) E a = D1 at tg1 d1 d2 d3 d4 ⊢
  have hv2 := ones_val tg1 ha (by omega)
  have hf2 := (tg1.one (by omega) ha).1
  have hD1l : D1.length = N := by rw [tg1.ok.len, hNN]
  have hE1l : E1.length = N := by rw [hO1.len, hNN]
  by_cases hBd2 : Bd D1 E1
  · obtain ⟨tg2, b1, b2, b3, b4⟩ := hv2
    (with_reducible (show CallK _ _ _ _ _ _ _ _ _ _ _)); with_reducible refine cm2 (adj_one (rw := true) (rw' := true) tg1.ok hO1 (by omega) tg1.all.inD tg1.tri tg1.all.fin hE1a.fin hBd2 ha hf2 ?_ ?_ hNN) ?_
    · exact hget_newL rfl
    · show hget _ (H.length + 6) = _
      exact hget_newL rfl
    have hdiag : ∀ k : Nat, (k : Int) < r → atM r r r (onesD r D1 a) k k = atM r r r E k k := fun k hk => by
      by_cases e1 : k = a
      · subst e1; rw [b1, d2]
      · by_cases e2 : k = a + 1
        · subst e2; rw [b2, d1]
        · rw [b4 k hk e1 e2, d4 k hk e1 e2]
    have hoff := b3.trans d3
    clear b1 b2 b3 b4 d1 d2 d3 d4
    generalize onesE (r : Int) D1 E1 a = E2 at ⊢
    generalize onesD (r : Int) D1 a = D2 at tg2 hdiag hoff ⊢
    have hD2l : D2.length = N := by rw [tg2.ok.len, hNN]
    repeat' first | (with_reducible (show W _ _ _ _ _); with_reducible refine go2 ?_) | (with_reducible (show W _ _ _ _ _); with_reducible refine sg2 ?_ ?_ <;> intro _) | (with_reducible (show W _ _ (.code (.region 9 _ true) :: _) _ _); with_reducible refine W_draw [(0, []), (1, []), (3, []), (9, []), (10, []), (2, [0, 9, 10]), (4, [9, 10]), (5, []), (6, []), (7, []), (8, []), (11, []), (12, []), (13, [])] [0, 9, 10] (by kernel_rfl) ?_) | (with_reducible (show W _ _ (.code (.region 18 _ true) :: _) _ _); with_reducible refine W_draw [(0, []), (1, []), (2, []), (4, []), (5, []), (6, []), (3, [4]), (7, []), (8, [])] [4] (by kernel_rfl) ?_) | (with_reducible (show W _ _ (.code (.region 20 _ true) :: _) _ _); with_reducible refine W_draw [(0, []), (1, []), (2, []), (3, []), (4, []), (5, []), (6, []), (7, []), (8, []), (10, []), (11, []), (12, []), (13, []), (9, [10]), (14, []), (15, []), (16, []), (17, [])] [10] (by kernel_rfl) ?_)
    refine W_memQ (fun C => hget C H.length = some ⟨E.map u64, true⟩ ∧ hget C (H.length + 1) = some ⟨[i64 r, i64 r, i64 r, .slice H.length 0 N N 1], true⟩ ∧ hget C (H.length + 7) = some ⟨D2.map u64, true⟩ ∧ hget C (H.length + 9) = some ⟨[i64 r, i64 r, i64 r, .slice (H.length + 7) 0 N N 1], true⟩ ∧ hget C (H.length + 10) = some ⟨[i64 r, i64 r, i64 r, .slice (H.length + 7 + 1) 0 N N 1], true⟩ ∧ ∃ J, C = H ++ J) ⟨?_, ?_, ?_, ?_, ?_, ?_⟩ ?_
    · exact hget_new'
    · exact hget_newL rfl
    · exact hget_newL rfl
    · exact hget_newL rfl
    · exact hget_newL rfl
    · exact ⟨_, rfl⟩
    rintro C ⟨c1, c2, c3, c4, c5, J, hJ⟩
    have hJ2 : Hid2 (C = H ++ J) := hJ
    clear hJ
    have c1L : ∀ L : MH, hget (C ++ L) H.length = _ := fun L => hget_appL c1
    have c3L : ∀ L : MH, hget (C ++ L) (H.length + 7) = _ := fun L => hget_appL c3
    have hr0 : ((r : Int) < r) = False := eq_false (by omega)
    refine W_for (fun j ρ C2 => ∃ k : Nat, k + j = r ∧ ρ 0 = i64 (r : Int) ∧ ρ 2 = i64 (a : Int) ∧ ρ 7 = .ptr (H.length + 1) 0 ∧ ρ 11 = .ptr (H.length + 9) 0 ∧ ρ 12 = .ptr (H.length + 10) 0 ∧ ρ 14 = i64 (k : Int) ∧ C2 = C) r ?_ ?_
    · exact ⟨0, by omega, rfl, rfl, rfl, rfl, rfl, rfl, rfl⟩
    rintro j ρ C2 ⟨k, hk, g0, g2, g7, g11, g12, g14, rfl⟩
    have aE : ∀ (L : MH) (i k : Int), Spec Tryz.prog 11 [mx r r r H.length N N, i64 i, i64 k] (C2 ++ L) fun v H' => v = u64 (atM r r r E i k) ∧ H' = C2 ++ L := fun L i k => at_ok hE i k (c1L L) hEl
    have aD : ∀ (L : MH) (i k : Int), Spec Tryz.prog 11 [mx r r r (H.length + 7) N N, i64 i, i64 k] (C2 ++ L) fun v H' => v = u64 (atM r r r D2 i k) ∧ H' = C2 ++ L := fun L i k => at_ok tg2.ok i k (c3L L) hD2l
    have aE0 : ∀ (i k : Int), Spec Tryz.prog 11 [mx r r r H.length N N, i64 i, i64 k] C2 fun v H' => v = u64 (atM r r r E i k) ∧ H' = C2 := fun i k => at_ok hE i k c1 hEl
    have aD0 : ∀ (i k : Int), Spec Tryz.prog 11 [mx r r r (H.length + 7) N N, i64 i, i64 k] C2 fun v H' => v = u64 (atM r r r D2 i k) ∧ H' = C2 := fun i k => at_ok tg2.ok i k c3 hD2l
    by_cases hkr : (k : Int) < (r : Int)
    · have hkr2 : ((k : Int) < (r : Int)) = True := eq_true hkr
      have hd := hdiag k hkr
      have ek : IntKind.i64.wrap ((k : Int) + 1) = ((k + 1 : Nat) : Int) := by rw [wrap_i64 (by omega)]; omega
      repeat' first | (with_reducible (show W _ _ _ _ _); with_reducible refine go2 ?_) | (with_reducible (show W _ _ _ _ _); with_reducible refine sg2 ?_ ?_ <;> intro _) | (with_reducible (show W _ _ _ _ _); with_reducible refine sc2 ?_ ?_ <;> intro _) | (with_reducible (show CallK _ _ _ _ _ _ _ _ _ _ _); with_reducible refine ce2 (aE0 _ _) ?_) | (with_reducible (show CallK _ _ _ _ _ _ _ _ _ _ _); with_reducible refine ce2 (aD0 _ _) ?_) | (with_reducible (show W _ _ (.code (.region 9 _ true) :: _) _ _); with_reducible refine W_draw [(0, []), (1, []), (3, []), (9, []), (10, []), (2, [0, 9, 10]), (4, [9, 10]), (5, []), (6, []), (7, []), (8, []), (11, []), (12, []), (13, [])] [0, 9, 10] (by kernel_rfl) ?_) | (with_reducible (show W _ _ (.code (.region 18 _ true) :: _) _ _); with_reducible refine W_draw [(0, []), (1, []), (2, []), (4, []), (5, []), (6, []), (3, [4]), (7, []), (8, [])] [4] (by kernel_rfl) ?_) | (with_reducible (show W _ _ (.code (.region 20 _ true) :: _) _ _); with_reducible refine W_draw [(0, []), (1, []), (2, []), (3, []), (4, []), (5, []), (6, []), (7, []), (8, []), (10, []), (11, []), (12, []), (13, []), (9, [10]), (14, []), (15, []), (16, []), (17, [])] [10] (by kernel_rfl) ?_)
      all_goals exact ⟨j - 1, by omega, k + 1, by omega, rfl⟩
    · have hkr2 : ((k : Int) < (r : Int)) = False := eq_false hkr
      repeat' first | (with_reducible (show W _ _ _ _ _); with_reducible refine go2 ?_) | (with_reducible (show W _ _ _ _ _); with_reducible refine sg2 ?_ ?_ <;> intro _) | (with_reducible (show W _ _ _ _ _); with_reducible refine sc2 ?_ ?_ <;> intro _) | (with_reducible (show CallK _ _ _ _ _ _ _ _ _ _ _); with_reducible refine ce2 (aE0 _ _) ?_) | (with_reducible (show CallK _ _ _ _ _ _ _ _ _ _ _); with_reducible refine ce2 (aD0 _ _) ?_) | (with_reducible (show W _ _ (.code (.region 9 _ true) :: _) _ _); with_reducible refine W_draw [(0, []), (1, []), (3, []), (9, []), (10, []), (2, [0, 9, 10]), (4, [9, 10]), (5, []), (6, []), (7, []), (8, []), (11, []), (12, []), (13, [])] [0, 9, 10] (by kernel_rfl) ?_) | (with_reducible (show W _ _ (.code (.region 18 _ true) :: _) _ _); with_reducible refine W_draw [(0, []), (1, []), (2, []), (4, []), (5, []), (6, []), (3, [4]), (7, []), (8, [])] [4] (by kernel_rfl) ?_) | (with_reducible (show W _ _ (.code (.region 20 _ true) :: _) _ _); with_reducible refine W_draw [(0, []), (1, []), (2, []), (3, []), (4, []), (5, []), (6, []), (7, []), (8, []), (10, []), (11, []), (12, []), (13, []), (9, [10]), (14, []), (15, []), (16, []), (17, [])] [10] (by kernel_rfl) ?_)
      all_goals first | exact ⟨_, hJ2⟩ | trace_state
  · obtain ⟨L1, hL1, _⟩ := tri_blocks hn0.1 tg1.tri
    (with_reducible (show CallK _ _ _ _ _ _ _ _ _ _ _)); with_reducible refine cm2 (adj_er (e := 10) (by decide) rfl rfl ⟨rfl, rfl, rfl, rfl⟩ fun L' => fits_over (rw := true) (rw' := true) tg1.ok (by omega) hD1l (hget_appL (hget_newL rfl)) hL1 tg1.all.fin hO1 (by omega) hE1l (hget_appL ?_) hE1a.fin hBd2) ?_
    · show hget _ (H.length + 6) = _
      exact hget_newL rfl
    repeat' first | (with_reducible (show W _ _ _ _ _); with_reducible refine go2 ?_) | (with_reducible (show W _ _ _ _ _); with_reducible refine sg2 ?_ ?_ <;> intro _) | (with_reducible (show W _ _ (.code (.region 9 _ true) :: _) _ _); with_reducible refine W_draw [(0, []), (1, []), (3, []), (9, []), (10, []), (2, [0, 9, 10]), (4, [9, 10]), (5, []), (6, []), (7, []), (8, []), (11, []), (12, []), (13, [])] [0, 9, 10] (by kernel_rfl) ?_) | (with_reducible (show W _ _ (.code (.region 18 _ true) :: _) _ _); with_reducible refine W_draw [(0, []), (1, []), (2, []), (4, []), (5, []), (6, []), (3, [4]), (7, []), (8, [])] [4] (by kernel_rfl) ?_) | (with_reducible (show W _ _ (.code (.region 20 _ true) :: _) _ _); with_reducible refine W_draw [(0, []), (1, []), (2, []), (3, []), (4, []), (5, []), (6, []), (7, []), (8, []), (10, []), (11, []), (12, []), (13, []), (9, [10]), (14, []), (15, []), (16, []), (17, [])] [10] (by kernel_rfl) ?_)
    all_goals trivial
  all_goals trivial
end Go.Proofs.YtdbngjlhcjjhbaaGreatDoor.M
