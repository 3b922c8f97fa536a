/- schur.Of of at most two rows. -/
import Derived.Test.YtamoljalficfgaaC56
set_option linter.unusedSimpArgs false
set_option linter.unusedVariables false
set_option pp.deepTerms false
set_option pp.maxSteps 1500
set_option maxRecDepth 10000
set_option maxHeartbeats 16000000
namespace Go.Proofs.Ytamoljalficfgaa.M
open Go Go.Proofs

theorem red_small {n : Int} {D : List Int} (h2 : n ≤ 2) : redM n D = (0, (unitD n n D, oneM n)) := by
  unfold redM
  match n.toNat with
  | 0 => rfl
  | f + 1 => rw [redL, if_neg (by omega)]
theorem qb_blk {n : Int} {D : List Int} (h2 : n ≤ 2) (h : n = 2 → blkP n D 0 = true) : IsH n n D ∧ Qb n D := by
  refine ⟨fun i k hi hk hik => by omega, fun k hk hz => ?_⟩
  have e : n = 2 := by omega
  have e0 : k = 0 := by omega
  subst e0
  unfold pbB
  have := h e
  unfold blkP at this
  rw [this, decide_eq_false (show ¬ ((0 + 2 : Nat) : Int) < n by omega)]
  rfl
theorem qb_zero {n : Int} {D : List Int} (h : MatOk n n D) (h2 : n ≤ 2) : IsH n n (setM n n n D ((1 : Nat) : Int) ((0 : Nat) : Int) 0) ∧ Qb n (setM n n n D ((1 : Nat) : Int) ((0 : Nat) : Int) 0) := by
  refine ⟨fun i k hi hk hik => by omega, fun k hk hz => absurd ?_ hz⟩
  have e0 : k = 0 := by omega
  subst e0
  rw [at_set_eqQ h (by omega) (by omega)]
  decide
theorem qb_of {n : Int} {D : List Int} {hi : Nat} (h2 : n ≤ 2) (hh : hi = 1) (g : (hi : Int) < n → IsH n n D ∧ Qb n D) : IsH n n D ∧ Qb n D := by
  by_cases e : n = 2
  · exact g (by omega)
  · exact qb_blk h2 fun h => absurd h e
/-- What schur.Of makes of at most two rows. -/
def Sm (n : Int) (S0 S : List Int × List Int) : Prop := SqOk n S ∧ (n ≤ 1 → S = S0) ∧ IsH n n S.1 ∧ Qb n S.1
abbrev form0 (n : Int) (N : Nat) (pw : Int) (p p' : Nat) : MV := .tup [.agg [i64 n, i64 n, i64 n, .slice p 0 N N 1, i64 n, i64 n, i64 n, .slice p' 0 N N 1, i64 pw, i64 0, i64 0], i64 0]
theorem of_small {n : Int} {p0 z : Nat} {D : List Int} (h : MatOk n n D) (hI : InD D) (hn2 : n ≤ 2) {N : Nat} (hN : D.length = N) {H : MH} {rw : Bool} (hp : hget H p0 = some ⟨D.map u64, rw⟩) (hfin : finD D = true) :
    Spec Try.prog 20 [mx n n n p0 N z] H fun u H' => ∃ S, Sm n (unitD n n D, oneM n) S ∧ u = form0 n N (unitE n n D) H.length (H.length + 1) ∧ H' = H ++ [some ⟨S.1.map u64, true⟩, some ⟨S.2.map u64, true⟩] := by
  have hn8 : n ≤ 90 := by omega
  have hpl := lt_of_hget hp
  have hn0 := h.r0
  have hNN : (n * n).toNat = N := h.len.symm.trans hN
  have hS0 := redM_ok h hI
  have hred := fun L => reduce_ok h hI hn8 hN (z := z) (hget_appL (L := L) hp) hfin (by rw [red_small hn2])
  rw [red_small hn2] at hS0 hred
  have hfinB : n = 2 → finL (blkL n (unitD n n D) 0) = true := fun e => by
    have f := fun (i k : Nat) (hi : (i : Int) < n) (hk : (k : Int) < n) => unit_fin h hI hfin hi hk
    simp only [finL, blkL, List.all_cons, List.all_nil, Bool.and_true, Bool.and_eq_true]
    exact ⟨f 0 0 (by omega) (by omega), f 0 1 (by omega) (by omega), f 1 0 (by omega) (by omega), f 1 1 (by omega) (by omega)⟩
  dsimp only at hS0 hred
  generalize hS00 : ((unitD n n D, oneM n) : List Int × List Int) = S0 at hS0 hred ⊢
  have hd1 : unitD n n D = S0.1 := by rw [← hS00]
  have hd2 : oneM n = S0.2 := by rw [← hS00]
  rw [hd1] at hfinB hred
  rw [hd2] at hred
  clear hS00 hd1 hd2
  generalize unitE n n D = pw at hred ⊢
  refine (Spec.twoE (G := Sm n S0) (v := fun p p' => form0 n N pw p p') (cs := fun S => S.1.map u64) (ds := fun S => S.2.map u64) (E := fun _ => False) (w := fun e => i64 e) (fun t => closed_u64 _) (fun t => closed_u64 _) (fun e => by simp [Cl]) (fun p p' => by simp [Cl, Cls']) (fun π p p' _ _ => by simp [ren, rens]) ?_).mono ?_
  rotate_left
  · rintro u H' (⟨e, he, _⟩ | h)
    · exact he.elim
    · exact h

  refine enterS Try.func20 [.cell 2 55, .tmp 3] ?_
  repeat' first | (with_reducible (show W _ _ _ _ _); with_reducible refine go2 ?_) | (with_reducible (show W _ _ _ _ _); with_reducible refine sg2 ?_ ?_ <;> intro _) | (with_reducible (show W _ _ _ _ _); with_reducible refine sc2 ?_ ?_ <;> intro _) | (with_reducible (show W _ _ (.code (.region 18 _ true) :: _) _ _); with_reducible refine W_draw [(0, []), (1, []), (2, []), (3, []), (4, [1]), (5, [])] [1] (by kernel_rfl) ?_) | (with_reducible (show W _ _ (.code (.region 27 _ true) :: _) _ _); with_reducible refine W_draw [(0, []), (1, []), (2, []), (3, [1]), (4, []), (5, [])] [1] (by kernel_rfl) ?_) | ((with_reducible (show CallK _ _ _ _ _ _ _ _ _ _ _); with_reducible refine cm2 (hred _) ?_))
  refine W_for (fun j ρ C => ∃ (hi p p' : Nat) (st : Int) (S : List Int × List Int), hi ≤ j ∧ Hid2 ((hi : Int) ≤ n ∧ SqOk n S ∧ ((hi : Int) = n → S = S0) ∧ (n ≤ 1 → S = S0) ∧ ((hi : Int) < n → IsH n n S.1 ∧ Qb n S.1)) ∧ ρ 2 = .ptr (H.length + 1) 0 ∧ ρ 4 = .ptr (H.length + 4) 0 ∧ ρ 8 = .ptr (H.length + 6) 0 ∧ ρ 9 = i64 (hi : Int) ∧ ρ 10 = i64 st ∧ Om H n N pw 0 S C p p') n.toNat ?_ ?_
  · refine ⟨n.toNat, H.length + 2, H.length + 3, 0, S0, Nat.le_refl _, ⟨by omega, hS0, fun _ => rfl, fun _ => rfl, fun h => by omega⟩, rfl, rfl, rfl, ?_, rfl, ?_⟩
    · have : ((n.toNat : Nat) : Int) = n := Int.toNat_of_nonneg hn0
      rw [this]; rfl
    · exact ⟨(Old.refl H).app _, hget_newL rfl, ⟨_, hget_newL rfl⟩, ⟨hget_newL rfl, hget_newL rfl, hget_newL rfl, by omega, by omega, by omega⟩, by omega, by omega⟩
  clear hred
  rintro j ρ C ⟨hi, p, p', st, S, hhj, hQ, h2, h4, h8, h9, h10, hC⟩
  have hQ' := hQ
  obtain ⟨hhi, hS, g1, g2, g3⟩ := hQ'
  by_cases hpos : 0 < (hi : Int)
  · have ehi : IntKind.i64.wrap ((hi : Int) - 1) = ((hi - 1 : Nat) : Int) := by rw [wrap_i64 (by omega)]; omega
    have hf := hC.fm.f
    repeat' first | (with_reducible (show W _ _ _ _ _); with_reducible refine go2 ?_) | (with_reducible (show W _ _ _ _ _); with_reducible refine sg2 ?_ ?_ <;> intro _) | (with_reducible (show W _ _ (.code (.region 18 _ true) :: _) _ _); with_reducible refine W_draw [(0, []), (1, []), (2, []), (3, []), (4, [1]), (5, [])] [1] (by kernel_rfl) ?_) | (with_reducible (show W _ _ (.code (.region 27 _ true) :: _) _ _); with_reducible refine W_draw [(0, []), (1, []), (2, []), (3, [1]), (4, []), (5, [])] [1] (by kernel_rfl) ?_)
    refine W_for (fun j' ρ' C' => ∃ lo : Nat, Hid2 (lo + 1 ≤ hi) ∧ lo ≤ j' ∧ ρ' 2 = .ptr (H.length + 1) 0 ∧ ρ' 4 = .ptr (H.length + 4) 0 ∧ ρ' 8 = .ptr (H.length + 6) 0 ∧ ρ' 9 = i64 (hi : Int) ∧ ρ' 10 = i64 st ∧ ρ' 11 = i64 (lo : Int) ∧ C' = C) hi ?_ ?_
    · exact ⟨hi - 1, show _ ≤ _ by omega, by omega, h2, h4, h8, h9, h10, rfl, rfl⟩
    clear h2 h4 h8 h9 h10
    rintro j' ρ' C' ⟨lo, hlo1, hlo2, h2, h4, h8, h9, h10, h11, rfl⟩
    have hlo1 : lo + 1 ≤ hi := hlo1
    have hSN := hS.a.len.trans hNN
    by_cases hlo : 0 < (lo : Int)
    · have elo : IntKind.i64.wrap ((lo : Int) - 1) = ((lo - 1 : Nat) : Int) := by rw [wrap_i64 (by omega)]; omega
      repeat' first | (with_reducible (show W _ _ _ _ _); with_reducible refine go2 ?_) | (with_reducible (show W _ _ _ _ _); with_reducible refine sg2 ?_ ?_ <;> intro _) | (with_reducible (show CallK _ _ _ _ _ _ _ _ _ _ _); with_reducible refine ce2 (apart_spec hS.a _ hSN hC.fm.d) ?_) | (with_reducible (show W _ _ (.code (.region 18 _ true) :: _) _ _); with_reducible refine W_draw [(0, []), (1, []), (2, []), (3, []), (4, [1]), (5, [])] [1] (by kernel_rfl) ?_) | (with_reducible (show W _ _ (.code (.region 27 _ true) :: _) _ _); with_reducible refine W_draw [(0, []), (1, []), (2, []), (3, [1]), (4, []), (5, [])] [1] (by kernel_rfl) ?_)
      refine sc2 ?_ ?_ <;> intro hap
      · repeat' first | (with_reducible (show W _ _ _ _ _); with_reducible refine go2 ?_) | (with_reducible (show W _ _ _ _ _); with_reducible refine sg2 ?_ ?_ <;> intro _) | (with_reducible (show W _ _ (.code (.region 18 _ true) :: _) _ _); with_reducible refine W_draw [(0, []), (1, []), (2, []), (3, []), (4, [1]), (5, [])] [1] (by kernel_rfl) ?_) | (with_reducible (show W _ _ (.code (.region 27 _ true) :: _) _ _); with_reducible refine W_draw [(0, []), (1, []), (2, []), (3, [1]), (4, []), (5, [])] [1] (by kernel_rfl) ?_)
        (with_reducible (show CallK _ _ _ _ _ _ _ _ _ _ _)); with_reducible refine cm2 (set_ok hS.a _ _ _ hC.fm.d hSN) ?_
        have hC1 : Om H n N pw 0 (setM n n n S.1 (lo : Int) ((lo - 1 : Nat) : Int) 0, S.2) _ p p' := hC.but (S' := (setM n n n S.1 (lo : Int) ((lo - 1 : Nat) : Int) 0, S.2)) ((But.refl p p' C').setD _) (hC.fm.setD (setM n n n S.1 (lo : Int) ((lo - 1 : Nat) : Int) 0))
        have hS1 : SqOk n (setM n n n S.1 (lo : Int) ((lo - 1 : Nat) : Int) 0, S.2) := ⟨hS.a.set _ _ _, hS.b.setm _ _ _ _ _ zero_in, hS.c, hS.d⟩
        have hq1 : IsH n n (setM n n n S.1 (lo : Int) ((lo - 1 : Nat) : Int) 0) ∧ Qb n (setM n n n S.1 (lo : Int) ((lo - 1 : Nat) : Int) 0) := by
          have hl1 : lo = 1 := by omega
          have := qb_zero hS.a hn2
          subst hl1
          exact this
        refine W_mem (fun C => ∃ S1, SqOk n S1 ∧ (IsH n n S1.1 ∧ Qb n S1.1) ∧ Om H n N pw 0 S1 C p p') ⟨_, hS1, hq1, hC1⟩ ?_
        clear hC1 hS1 hq1 hC hf hap
        rintro C1 ⟨S1, hS1, hq1, hC1⟩
        have r2 := hC1.r2
        have hf := hC1.fm.f
        have hSN := hS1.a.len.trans hNN
        obtain ⟨vb, b4⟩ := hC1.b4
        have hCl := lt_of_hget hC1.fm.f
        have q1 : H.length + 1 < C1.length := by omega
        have q6 : H.length + 6 < C1.length := by omega
        have edif : IntKind.i64.wrap ((hi : Int) - lo) = ((hi - lo : Nat) : Int) := by rw [wrap_i64 (by omega)]; omega
        repeat' first | (with_reducible (show W _ _ _ _ _); with_reducible refine go2 ?_) | (with_reducible (show W _ _ _ _ _); with_reducible refine sg2 ?_ ?_ <;> intro _) | (with_reducible (show W _ _ (.code (.region 18 _ true) :: _) _ _); with_reducible refine W_draw [(0, []), (1, []), (2, []), (3, []), (4, [1]), (5, [])] [1] (by kernel_rfl) ?_) | (with_reducible (show W _ _ (.code (.region 27 _ true) :: _) _ _); with_reducible refine W_draw [(0, []), (1, []), (2, []), (3, [1]), (4, []), (5, [])] [1] (by kernel_rfl) ?_)
        refine sc2 ?_ ?_ <;> intro c1
        · repeat' first | (with_reducible (show W _ _ _ _ _); with_reducible refine go2 ?_) | (with_reducible (show W _ _ _ _ _); with_reducible refine sg2 ?_ ?_ <;> intro _) | (with_reducible (show W _ _ (.code (.region 18 _ true) :: _) _ _); with_reducible refine W_draw [(0, []), (1, []), (2, []), (3, []), (4, [1]), (5, [])] [1] (by kernel_rfl) ?_) | (with_reducible (show W _ _ (.code (.region 27 _ true) :: _) _ _); with_reducible refine W_draw [(0, []), (1, []), (2, []), (3, [1]), (4, []), (5, [])] [1] (by kernel_rfl) ?_)
          exact ⟨lo, by omega, lo, p, p', 0, S1, Nat.le_refl _, ⟨by omega, hS1, fun h => by omega, fun h => by omega, fun _ => hq1⟩, rfl, rfl, hC1⟩
        · exfalso; omega
      · repeat' first | (with_reducible (show W _ _ _ _ _); with_reducible refine go2 ?_) | (with_reducible (show W _ _ _ _ _); with_reducible refine sg2 ?_ ?_ <;> intro _) | (with_reducible (show W _ _ (.code (.region 18 _ true) :: _) _ _); with_reducible refine W_draw [(0, []), (1, []), (2, []), (3, []), (4, [1]), (5, [])] [1] (by kernel_rfl) ?_) | (with_reducible (show W _ _ (.code (.region 27 _ true) :: _) _ _); with_reducible refine W_draw [(0, []), (1, []), (2, []), (3, [1]), (4, []), (5, [])] [1] (by kernel_rfl) ?_)
        exact ⟨j' - 1, by omega, lo - 1, show _ ≤ _ by omega, by omega, rfl⟩
    · have r2 := hC.r2
      have hf := hC.fm.f
      have hSN := hS.a.len.trans hNN
      obtain ⟨vb, b4⟩ := hC.b4
      have hCl := lt_of_hget hC.fm.f
      have q1 : H.length + 1 < C'.length := by omega
      have q6 : H.length + 6 < C'.length := by omega
      have edif : IntKind.i64.wrap ((hi : Int) - lo) = ((hi - lo : Nat) : Int) := by rw [wrap_i64 (by omega)]; omega
      repeat' first | (with_reducible (show W _ _ _ _ _); with_reducible refine go2 ?_) | (with_reducible (show W _ _ _ _ _); with_reducible refine sg2 ?_ ?_ <;> intro _) | (with_reducible (show W _ _ (.code (.region 18 _ true) :: _) _ _); with_reducible refine W_draw [(0, []), (1, []), (2, []), (3, []), (4, [1]), (5, [])] [1] (by kernel_rfl) ?_) | (with_reducible (show W _ _ (.code (.region 27 _ true) :: _) _ _); with_reducible refine W_draw [(0, []), (1, []), (2, []), (3, [1]), (4, []), (5, [])] [1] (by kernel_rfl) ?_)
      refine sc2 ?_ ?_ <;> intro c1
      · repeat' first | (with_reducible (show W _ _ _ _ _); with_reducible refine go2 ?_) | (with_reducible (show W _ _ _ _ _); with_reducible refine sg2 ?_ ?_ <;> intro _) | (with_reducible (show W _ _ (.code (.region 18 _ true) :: _) _ _); with_reducible refine W_draw [(0, []), (1, []), (2, []), (3, []), (4, [1]), (5, [])] [1] (by kernel_rfl) ?_) | (with_reducible (show W _ _ (.code (.region 27 _ true) :: _) _ _); with_reducible refine W_draw [(0, []), (1, []), (2, []), (3, [1]), (4, []), (5, [])] [1] (by kernel_rfl) ?_)
        exact ⟨lo, by omega, lo, p, p', 0, S, Nat.le_refl _, ⟨by omega, hS, fun h => by omega, g2, fun _ => qb_of hn2 (by omega) g3⟩, rfl, rfl, hC⟩
      repeat' first | (with_reducible (show W _ _ _ _ _); with_reducible refine go2 ?_) | (with_reducible (show W _ _ _ _ _); with_reducible refine sg2 ?_ ?_ <;> intro _) | (with_reducible (show W _ _ (.code (.region 18 _ true) :: _) _ _); with_reducible refine W_draw [(0, []), (1, []), (2, []), (3, []), (4, [1]), (5, [])] [1] (by kernel_rfl) ?_) | (with_reducible (show W _ _ (.code (.region 27 _ true) :: _) _ _); with_reducible refine W_draw [(0, []), (1, []), (2, []), (3, [1]), (4, []), (5, [])] [1] (by kernel_rfl) ?_)
      refine sc2 ?_ ?_ <;> intro c2
      · repeat' first | (with_reducible (show W _ _ _ _ _); with_reducible refine go2 ?_) | (with_reducible (show W _ _ _ _ _); with_reducible refine sg2 ?_ ?_ <;> intro _) | (with_reducible (show W _ _ (.code (.region 18 _ true) :: _) _ _); with_reducible refine W_draw [(0, []), (1, []), (2, []), (3, []), (4, [1]), (5, [])] [1] (by kernel_rfl) ?_) | (with_reducible (show W _ _ (.code (.region 27 _ true) :: _) _ _); with_reducible refine W_draw [(0, []), (1, []), (2, []), (3, [1]), (4, []), (5, [])] [1] (by kernel_rfl) ?_)
        (with_reducible (show CallK _ _ _ _ _ _ _ _ _ _ _)); with_reducible refine cx2 (two_spec hS hn8 hNN hC.fm (by omega)) ?_
        rintro u' C2 ⟨rfl, hb2, S2, hS2, hpl2, hF2⟩
        have hC2 := hC.but hb2 hF2
        have hq2 : IsH n n S2.1 ∧ Qb n S2.1 := by
          refine qb_blk hn2 fun e => ?_
          have hl0 : lo = 0 := by omega
          have hSS := g1 (by omega)
          subst hl0 hSS
          exact hpl2 (hfinB e)
        repeat' first | (with_reducible (show W _ _ _ _ _); with_reducible refine go2 ?_) | (with_reducible (show W _ _ _ _ _); with_reducible refine sg2 ?_ ?_ <;> intro _) | (with_reducible (show W _ _ (.code (.region 18 _ true) :: _) _ _); with_reducible refine W_draw [(0, []), (1, []), (2, []), (3, []), (4, [1]), (5, [])] [1] (by kernel_rfl) ?_) | (with_reducible (show W _ _ (.code (.region 27 _ true) :: _) _ _); with_reducible refine W_draw [(0, []), (1, []), (2, []), (3, [1]), (4, []), (5, [])] [1] (by kernel_rfl) ?_)
        exact ⟨lo, by omega, lo, p, p', 0, S2, Nat.le_refl _, ⟨by omega, hS2, fun h => by omega, fun h => by omega, fun _ => hq2⟩, rfl, rfl, hC2⟩
      · exfalso; omega
  · have r2 := hC.r2
    have hf := hC.fm.f
    have hCl := lt_of_hget hC.fm.f
    have q1 : H.length + 1 < C.length := by omega
    have hl1 := hC.l1
    have hl2 := hC.l2
    have hn1 := hC.fm.n1
    repeat' first | (with_reducible (show W _ _ _ _ _); with_reducible refine go2 ?_) | (with_reducible (show W _ _ _ _ _); with_reducible refine sg2 ?_ ?_ <;> intro _) | (with_reducible (show W _ _ _ _ _); with_reducible refine sc2 ?_ ?_ <;> intro _) | (with_reducible (show W _ _ (.code (.region 18 _ true) :: _) _ _); with_reducible refine W_draw [(0, []), (1, []), (2, []), (3, []), (4, [1]), (5, [])] [1] (by kernel_rfl) ?_) | (with_reducible (show W _ _ (.code (.region 27 _ true) :: _) _ _); with_reducible refine W_draw [(0, []), (1, []), (2, []), (3, [1]), (4, []), (5, [])] [1] (by kernel_rfl) ?_)
    refine .inr ⟨S, p, p', ⟨hS, g2, ?_⟩, rfl, hn1, by omega, by omega, (hget_set_ne (by omega) _).trans hC.fm.d, (hget_set_ne (by omega) _).trans hC.fm.e, hC.old.setq _ (by omega)⟩
    by_cases e : n = 2
    · exact g3 (by omega)
    · exact qb_blk hn2 fun h => absurd h e
end Go.Proofs.Ytamoljalficfgaa.M
