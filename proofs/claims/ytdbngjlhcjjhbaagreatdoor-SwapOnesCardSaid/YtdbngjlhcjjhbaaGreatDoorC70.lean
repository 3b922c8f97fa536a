/- swap.Adjacent of a triangle. -/
import Derived.Test.YtdbngjlhcjjhbaaGreatDoorC69
set_option linter.unusedSimpArgs false
set_option linter.unusedVariables false
set_option pp.deepTerms false
set_option pp.maxSteps 1500
set_option maxRecDepth 10000
set_option maxHeartbeats 4000000
namespace Go.Proofs.YtdbngjlhcjjhbaaGreatDoor.M
open Go Go.Proofs

theorem adj_one {n : Int} {p q z y : Nat} {D E : List Int} (hD : MatOk n n D) (hE : MatOk n n E) (hn8 : n ≤ 100) (hDI : InD D) (hT : Tri n D) (hfD : finD D = true) (hfE : finD E = true) (hB : Bd D E) {a : Nat} (ha : ((a + 1 : Nat) : Int) < n) (hf : OneFin n D a)
    {H : MH} {rw rw' : Bool} (hp : hget H p = some ⟨D.map u64, rw⟩) (hq : hget H q = some ⟨E.map u64, rw'⟩) {N : Nat} (hN : (n * n).toNat = N) :
    Spec Tryz.prog 9 [mx n n n p N z, mx n n n q N y, i64 (a : Int)] H fun v H' => v = .tup [mx n n n H.length N N, mx n n n (H.length + 1) N N, i64 0] ∧ H' = H ++ [some ⟨(onesD n D a).map u64, true⟩, some ⟨(onesE n D E a).map u64, true⟩] := by
  have hDl : D.length = N := hD.len.trans hN
  have hEl : E.length = N := hE.len.trans hN
  have hr1 := hD.r1
  obtain ⟨L, hb, hL⟩ := tri_blocks hD.r0 hT
  obtain ⟨hLl, hLx⟩ := blk_all hb
  have haL : a ∈ L := (hL a).2 (by omega)
  have e1 : IntKind.i64.wrap ((a : Int) + 1) = ((a + 1 : Nat) : Int) := by rw [wrap_i64 (by omega)]; omega
  have hff := fun L' => fits_ok hD hn8 hDl (z := z) (hget_appL (L := L') hp) hb hfD hE hn8 hEl (y := y) (hget_appL (L := L') hq) hfE hB
  have hlvG : ∀ {B C : MH} {v : MV}, Ls B C 1 (ints L) L.length v → lenV Tryz.prog 48 v = some (i64 (L.length : Int)) := fun hv => hv.len (by rw [ty_48])
  refine Spec.twoX (v := fun p p' => .tup [mx n n n p N N, mx n n n p' N N, i64 0]) (closed_u64 _) (closed_u64 _) (fun p p' => by simp [Cl, Cls']) (fun π p p' _ _ => by simp [ren, rens]) ?_
  refine enterS Tryz.func9 [.cell 6 25, .cell 7 25, .tmp 8] ?_
  repeat' first | (with_reducible (show W _ _ _ _ _); with_reducible refine go2 ?_) | (with_reducible (show W _ _ _ _ _); with_reducible refine sg2 ?_ ?_ <;> intro _) | (with_reducible (show W _ _ (.code (.region 10 _ true) :: _) _ _); with_reducible refine W_draw [(0, []), (1, []), (2, []), (3, []), (4, []), (5, []), (8, []), (9, []), (6, [9]), (7, []), (10, []), (11, [])] [9] (by kernel_rfl) ?_) | ((with_reducible (show CallK _ _ _ _ _ _ _ _ _ _ _); with_reducible refine cx2 (hff _) ?_; rintro u' H' ⟨v, J, rfl, rfl, hv⟩; have hlv := hlvG hv))
  clear hff hlvG
  refine W_memQ (fun C => Old H C ∧ hget C H.length = some ⟨[i64 n, i64 n, i64 n, .slice p 0 N z 1], true⟩ ∧ hget C (H.length + 1) = some ⟨[i64 n, i64 n, i64 n, .slice q 0 N y 1], true⟩ ∧ hget C (H.length + 2) = some ⟨[i64 0, i64 0, i64 0, nils], true⟩ ∧ hget C (H.length + 3) = some ⟨[i64 0, i64 0, i64 0, nils], true⟩ ∧ ∃ B : MH, Ls B C 1 (ints L) L.length v) ⟨?_, ?_, ?_, ?_, ?_, _, (by have := hv; rw [List.append_assoc] at this; exact this)⟩ ?_
  · exact (Old.refl H).app _
  · exact hget_new'
  · exact hget_new
  · exact hget_new
  · exact hget_new
  clear hv
  rintro C ⟨hO, hb1, hb2, hb3, hb4, B, hv⟩
  have g4 := lt_of_hget hb4
  have q1 : H.length < C.length := by omega
  have q2 : H.length + 1 < C.length := by omega
  have q3 : H.length + 2 < C.length := by omega
  refine W_for (fun j ρ C3 => ∃ k : Nat, k + j = L.length ∧ ρ 2 = i64 (a : Int) ∧ ρ 3 = .ptr H.length 0 ∧ ρ 4 = .ptr (H.length + 1) 0 ∧ ρ 6 = .ptr (H.length + 2) 0 ∧ ρ 7 = .ptr (H.length + 3) 0 ∧ ρ 11 = bl (decide (a ∈ L.take k)) ∧ ρ 25 = v ∧ ρ 26 = i64 (L.length : Int) ∧ ρ 27 = i64 (k : Int) ∧ C3 = C) L.length ?_ ?_
  · refine ⟨0, by omega, ?_⟩
    simp [put, args0, *]
  rintro j ρ C3 ⟨k, hk, h2, h3, h4, h6, h7, h11, h25, h26, h27, rfl⟩
  by_cases hkl : k < L.length
  · have hia := hv.ia hkl 8 (some [.int .i64 0]) true .i64
    have hld := hv.ld (P := Tryz.prog) (t := 3) (by rw [ty_3]) (by rw [ty_3]) hkl (x := i64 ((L[k] : Nat) : Int)) (by simp [hkl])
    have hkl2 : ((k : Int) < (L.length : Int)) = True := eq_true (by omega)
    have ek : IntKind.i64.wrap ((k : Int) + 1) = ((k + 1 : Nat) : Int) := by rw [wrap_i64 (by omega)]; omega
    have htk : Hid2 (decide (a ∈ L.take (k + 1)) = (decide (a ∈ L.take k) || decide (((L[k] : Nat) : Int) = (a : Int)))) := by
      unfold Hid2
      rw [List.take_succ_eq_append_getElem hkl]
      rw [← Bool.decide_or, decide_eq_decide, List.mem_append, List.mem_singleton]
      constructor
      · rintro (h | h)
        · exact .inl h
        · exact .inr (by rw [h])
      · rintro (h | h)
        · exact .inl h
        · exact .inr (by omega)
    generalize L[k] = x at hld htk
    generalize decide (a ∈ L.take k) = b at h11 htk
    cases b
    all_goals
      repeat' first | (with_reducible (show W _ _ _ _ _); with_reducible refine go2 ?_) | (with_reducible (show W _ _ _ _ _); with_reducible refine sg2 ?_ ?_ <;> intro _) | (with_reducible (show W _ _ _ _ _); with_reducible refine sc2 ?_ ?_ <;> intro _) | (with_reducible (show W _ _ (.code (.region 10 _ true) :: _) _ _); with_reducible refine W_draw [(0, []), (1, []), (2, []), (3, []), (4, []), (5, []), (8, []), (9, []), (6, [9]), (7, []), (10, []), (11, [])] [9] (by kernel_rfl) ?_)
      all_goals refine ⟨j - 1, by omega, k + 1, by omega, ?_, rfl⟩
      all_goals (unfold Hid2 at htk; rw [htk]; simp only [Bool.false_or, Bool.true_or])
  · have hkl2 : ((k : Int) < (L.length : Int)) = False := eq_false (by omega)
    have hb1t : decide (a ∈ L.take k) = true := by rw [List.take_of_length_le (by omega)]; simpa using haL
    rw [hb1t] at h11
    have z1 : IntKind.i64.wrap (((a : Nat) : Int) + 1) < n → kindM (atM n n n D (IntKind.i64.wrap (((a : Nat) : Int) + 1)) a) = 1 := fun _ => by rw [e1]; exact hT (a + 1) a ha (by omega)
    have hna : (n ≤ ((a + 1 : Nat) : Int)) = False := eq_false (by omega)
    repeat' first | (with_reducible (show W _ _ _ _ _); with_reducible refine go2 ?_) | (with_reducible (show W _ _ _ _ _); with_reducible refine sg2 ?_ ?_ <;> intro _) | (with_reducible (show W _ _ (.code (.region 10 _ true) :: _) _ _); with_reducible refine W_draw [(0, []), (1, []), (2, []), (3, []), (4, []), (5, []), (8, []), (9, []), (6, [9]), (7, []), (10, []), (11, [])] [9] (by kernel_rfl) ?_)
    (with_reducible (show CallK _ _ _ _ _ _ _ _ _ _ _)); with_reducible refine cm2 (size_one hD hDl (hO.get hp) z1) ?_
    clear z1
    repeat' first | (with_reducible (show W _ _ _ _ _); with_reducible refine go2 ?_) | (with_reducible (show W _ _ _ _ _); with_reducible refine sg2 ?_ ?_ <;> intro _) | (with_reducible (show W _ _ (.code (.region 10 _ true) :: _) _ _); with_reducible refine W_draw [(0, []), (1, []), (2, []), (3, []), (4, []), (5, []), (8, []), (9, []), (6, [9]), (7, []), (10, []), (11, [])] [9] (by kernel_rfl) ?_)
    (with_reducible (show CallK _ _ _ _ _ _ _ _ _ _ _)); with_reducible refine cm2 (adjacent_spec hD hE hDI hT ha hf (hO.get hp) (hO.get hq) hN) ?_
    have q4 : H.length + 3 < C3.length := g4
    have hs2 : ∀ x, hget (C3.set (H.length + 2) x) (H.length + 3) = some ⟨[i64 0, i64 0, i64 0, nils], true⟩ := fun x => (hget_set_ne (by omega) _).trans hb4
    have hs4 : ∀ x y, hget ((C3.set (H.length + 2) x).set (H.length + 3) y) (H.length + 2) = x := fun x y => (hget_set_ne (by omega) _).trans (hget_set_same (by omega) _)
    have hs5 : ∀ x y, hget ((C3.set (H.length + 2) x).set (H.length + 3) y) (H.length + 3) = y := fun x y => hget_set_same (by rw [List.length_set]; omega) _
    have hl : ∀ x y, ((C3.set (H.length + 2) x).set (H.length + 3) y).length = C3.length := fun x y => by rw [List.length_set, List.length_set]
    have hs6 : ∀ x y (J : MH), hget ((C3.set (H.length + 2) x).set (H.length + 3) y ++ J) (H.length + 2) = x := fun x y J => (hget_old (by rw [hl]; omega)).trans (hs4 x y)
    have hs7 : ∀ x y (J : MH), hget ((C3.set (H.length + 2) x).set (H.length + 3) y ++ J) (H.length + 3) = y := fun x y J => (hget_old (by rw [hl]; omega)).trans (hs5 x y)
    repeat' first | (with_reducible (show W _ _ _ _ _); with_reducible refine go2 ?_) | (with_reducible (show W _ _ _ _ _); with_reducible refine sg2 ?_ ?_ <;> intro _) | (with_reducible (show W _ _ (.code (.region 10 _ true) :: _) _ _); with_reducible refine W_draw [(0, []), (1, []), (2, []), (3, []), (4, []), (5, []), (8, []), (9, []), (6, [9]), (7, []), (10, []), (11, [])] [9] (by kernel_rfl) ?_)
    exact ⟨C3.length, C3.length + 1, rfl, by omega, by omega, by omega, hget_newL' (hl _ _), hget_newL (hl _ _), (((hO.setq _ (by omega)).setq _ (by omega)).app _).2⟩
end Go.Proofs.YtdbngjlhcjjhbaaGreatDoor.M
