/- bal.Of of any square: it ends; how it was balanced is two lists of whole numbers. -/
import Derived.Test.YtaojabgaebbckaaGreatDoorC81
import Derived.Test.YtaojabgaebbckaaGreatDoorC28
set_option linter.unusedSimpArgs false
set_option linter.unusedVariables false
set_option pp.deepTerms false
set_option pp.maxSteps 1500
set_option maxRecDepth 10000
set_option maxHeartbeats 1000000
namespace Go.Proofs.YtaojabgaebbckaaGreatDoor.M
open Go Go.Proofs

abbrev bal0 : MV := .agg [.lit (.slice none 0 0), .lit (.slice none 0 0), i64 0, i64 0]
/-- What bal.Of holds while it works. -/
structure Bs (H C : MH) (r N : Nat) (lo hi : Nat) : Prop where
  old : Old H C
  c1 : hget C (H.length + 1) = some ⟨[i64 0, i64 0, i64 0, .lit (.slice none 0 0)], true⟩
  c2 : hget C (H.length + 2) = some ⟨[.lit (.slice none 0 0), .lit (.slice none 0 0), i64 0, i64 0], true⟩
  c4 : hget C (H.length + 4) = some ⟨[i64 (r : Int), i64 (r : Int), i64 (r : Int), .slice (H.length + 3) 0 N N 1], true⟩
  c7 : hget C (H.length + 7) = some ⟨[.slice (H.length + 5) 0 r r 1, .slice (H.length + 6) 0 r r 1, i64 (lo : Int), i64 (hi : Int)], true⟩
  m : ∃ D : List Int, MatOk r r D ∧ InD D ∧ D.length = N ∧ hget C (H.length + 3) = some ⟨D.map u64, true⟩
  pl : ∃ l : List Int, l.length = r ∧ hget C (H.length + 5) = some ⟨l.map i64, true⟩
  pw : ∃ l : List Int, l.length = r ∧ hget C (H.length + 6) = some ⟨l.map i64, true⟩
  le : lo ≤ hi ∧ hi ≤ r
theorem Fr.refl (C : MH) (ps : List Nat) : Fr C C ps := ⟨Nat.le_refl _, fun _ _ _ => rfl⟩
theorem Bs.next {H C C' : MH} {r N lo hi : Nat} (h : Bs H C r N lo hi) {ps : List Nat} (hF : Fr C C' ps) (hps : ∀ q ∈ ps, q = H.length + 3 ∨ q = H.length + 5 ∨ q = H.length + 6)
    (hm : ∃ D : List Int, MatOk r r D ∧ InD D ∧ D.length = N ∧ hget C' (H.length + 3) = some ⟨D.map u64, true⟩) (hpl : ∃ l : List Int, l.length = r ∧ hget C' (H.length + 5) = some ⟨l.map i64, true⟩) (hpw : ∃ l : List Int, l.length = r ∧ hget C' (H.length + 6) = some ⟨l.map i64, true⟩) : Bs H C' r N lo hi :=
  ⟨hF.old h.old fun q hq => by have := hps q hq; omega, hF.get h.c1 fun hq => by have := hps _ hq; omega, hF.get h.c2 fun hq => by have := hps _ hq; omega, hF.get h.c4 fun hq => by have := hps _ hq; omega, hF.get h.c7 fun hq => by have := hps _ hq; omega, hm, hpl, hpw, h.le⟩
theorem Bs.bounds {H C : MH} {r N lo hi : Nat} (h : Bs H C r N lo hi) {lo' hi' : Nat} (hl : lo' ≤ hi' ∧ hi' ≤ r) : Bs H (C.set (H.length + 7) (some ⟨[.slice (H.length + 5) 0 r r 1, .slice (H.length + 6) 0 r r 1, i64 (lo' : Int), i64 (hi' : Int)], true⟩)) r N lo' hi' := by
  have g7 := lt_of_hget h.c7
  obtain ⟨D, m1, m2, m3, m4⟩ := h.m
  obtain ⟨l, l1, l2⟩ := h.pl
  obtain ⟨w, w1, w2⟩ := h.pw
  exact ⟨h.old.setq _ (by omega), (hget_set_ne (by omega) _).trans h.c1, (hget_set_ne (by omega) _).trans h.c2, (hget_set_ne (by omega) _).trans h.c4, hget_set_same g7 _, ⟨D, m1, m2, m3, (hget_set_ne (by omega) _).trans m4⟩, ⟨l, l1, (hget_set_ne (by omega) _).trans l2⟩, ⟨w, w1, (hget_set_ne (by omega) _).trans w2⟩, hl⟩
theorem bal_spec {r p z N : Nat} {D : List Int} (hr : r ≤ 7) (h : MatOk r r D) (hI : InD D) (hN : D.length = N) {H : MH} {rw : Bool} (hp : hget H p = some ⟨D.map u64, rw⟩) :
    Spec Tryz.prog 9 [mx r r r p N z] H fun u H' => Old H H' ∧ (u = .tup [mx0, bal0, i64 6] ∨ ∃ (p1 p2 p3 : Nat) (pl pw : List Int) (lo hi : Int), u = .tup [mx r r r p1 N N, .agg [.slice p2 0 r r 1, .slice p3 0 r r 1, i64 lo, i64 hi], i64 0] ∧ pl.length = r ∧ pw.length = r ∧ hget H' p2 = some ⟨pl.map i64, true⟩ ∧ hget H' p3 = some ⟨pw.map i64, true⟩) := by
  refine enterS Tryz.func9 [.cell 2 38, .cell 3 41, .tmp 4] ?_
  have hms : msV (.slice 1 8 (some [.int .i64 0]) true) (.lit (.int .i64 (r : Int))) (.lit (.int .i64 (r : Int))) = some (List.replicate r (i64 0), r, r, 1) := by
    simp only [msV]
    rw [if_pos ⟨by omega, Int.le_refl _, by omega, by omega, rfl⟩, Int.toNat_natCast, Nat.mul_one]
    congr 2
    refine List.eq_replicate_iff.2 ⟨by simp, fun b hb => ?_⟩
    obtain ⟨i, _, rfl⟩ := List.mem_map.1 hb
    rw [show i % [Value.int IntKind.i64 0].length = 0 from Nat.mod_one i]
    rfl
  repeat' first | (with_reducible (show W _ _ _ _ _); with_reducible refine go2 ?_) | (with_reducible (show W _ _ _ _ _); with_reducible refine sg2 ?_ ?_ <;> intro _) | (with_reducible (show CallK _ _ _ _ _ _ _ _ _ _ _); with_reducible refine ce2 (check_ok h hN _) ?_) | (with_reducible (show CallK _ _ _ _ _ _ _ _ _ _ _); with_reducible refine ce2 (finite_mspec h hN (hget_appL hp)) ?_) | (with_reducible (show W _ _ (.code (.region 7 _ true) :: _) _ _); with_reducible refine W_draw [(0, []), (1, []), (2, []), (3, []), (4, []), (5, []), (6, []), (7, [])] [] (by kernel_rfl) ?_) | (with_reducible (show W _ _ (.code (.region 33 _ true) :: _) _ _); with_reducible refine W_draw [(0, []), (1, []), (2, [1]), (3, []), (4, [])] [1] (by kernel_rfl) ?_)
  refine sc2 ?_ ?_ <;> intro hf
  · repeat' first | (with_reducible (show W _ _ _ _ _); with_reducible refine go2 ?_) | (with_reducible (show W _ _ _ _ _); with_reducible refine sg2 ?_ ?_ <;> intro _) | (with_reducible (show W _ _ _ _ _); with_reducible refine sc2 ?_ ?_ <;> intro _) | (with_reducible (show W _ _ (.code (.region 7 _ true) :: _) _ _); with_reducible refine W_draw [(0, []), (1, []), (2, []), (3, []), (4, []), (5, []), (6, []), (7, [])] [] (by kernel_rfl) ?_) | (with_reducible (show W _ _ (.code (.region 33 _ true) :: _) _ _); with_reducible refine W_draw [(0, []), (1, []), (2, [1]), (3, []), (4, [])] [1] (by kernel_rfl) ?_)
    exact ⟨(Old.refl H).app _, .inl trivial⟩
  have hNN : ((r : Int) * r).toNat = N := by rw [← h.len, hN]
  repeat' first | (with_reducible (show W _ _ _ _ _); with_reducible refine go2 ?_) | (with_reducible (show W _ _ _ _ _); with_reducible refine sg2 ?_ ?_ <;> intro _) | (with_reducible (show W _ _ (.code (.region 7 _ true) :: _) _ _); with_reducible refine W_draw [(0, []), (1, []), (2, []), (3, []), (4, []), (5, []), (6, []), (7, [])] [] (by kernel_rfl) ?_) | (with_reducible (show W _ _ (.code (.region 33 _ true) :: _) _ _); with_reducible refine W_draw [(0, []), (1, []), (2, [1]), (3, []), (4, [])] [1] (by kernel_rfl) ?_)
  (with_reducible (show CallK _ _ _ _ _ _ _ _ _ _ _)); with_reducible refine cm2 (clone_spec h hN (hget_appL hp)) ?_
  repeat' first | (with_reducible (show W _ _ _ _ _); with_reducible refine go2 ?_) | (with_reducible (show W _ _ _ _ _); with_reducible refine sg2 ?_ ?_ <;> intro _) | (with_reducible (show W _ _ (.code (.region 7 _ true) :: _) _ _); with_reducible refine W_draw [(0, []), (1, []), (2, []), (3, []), (4, []), (5, []), (6, []), (7, [])] [] (by kernel_rfl) ?_) | (with_reducible (show W _ _ (.code (.region 33 _ true) :: _) _ _); with_reducible refine W_draw [(0, []), (1, []), (2, [1]), (3, []), (4, [])] [1] (by kernel_rfl) ?_)
  have hN0 : ∀ L : MH, Old H (H ++ L) := fun L => (Old.refl H).app _
  refine W_for (fun j ρ C => ∃ t : Nat, t + j = r ∧ ρ 2 = .ptr (H.length + 1) 0 ∧ ρ 3 = .ptr (H.length + 2) 0 ∧ ρ 4 = i64 0 ∧ ρ 6 = .ptr (H.length + 4) 0 ∧ ρ 7 = .ptr (H.length + 7) 0 ∧ ρ 41 = i64 (r : Int) ∧ ρ 42 = i64 (t : Int) ∧ Bs H C r N 0 r) r ?_ ?_
  · exact ⟨0, by omega, rfl, rfl, rfl, rfl, rfl, rfl, rfl, hN0 _, hget_newL rfl, hget_newL rfl, hget_newL rfl, hget_newL rfl, ⟨D, h, hI, hN, hget_newL rfl⟩, ⟨List.replicate r 0, by simp, by rw [List.map_replicate]; exact hget_newL rfl⟩, ⟨List.replicate r 0, by simp, by rw [List.map_replicate]; exact hget_newL rfl⟩, Nat.zero_le _, Nat.le_refl _⟩
  rintro j ρ C ⟨t, ht, h2, h3, h4, h6, h7, h41, h42, hB⟩
  by_cases htr : (t : Int) < (r : Int)
  · have htr2 : ((t : Int) < (r : Int)) = True := eq_true htr
    have et : IntKind.i64.wrap ((t : Int) + 1) = ((t + 1 : Nat) : Int) := by rw [wrap_i64 (by omega)]; omega
    have hB2 := hB
    obtain ⟨hO, c1, c2, c4, c7, hm, ⟨pl, hpl, c5⟩, hw, hle⟩ := hB
    have g5 := lt_of_hget c5
    have hii : iaV (.slice 1 8 (some [.int .i64 0]) true) (.slice (H.length + 5) 0 r r 1) (.lit (.int .i64 (t : Int))) = some (.ptr (H.length + 5) t) := by
      rw [iaV_slice, if_pos ⟨by omega, by omega⟩]; simp
    have hil : (t + 1 ≤ (pl.map i64).length) = True := eq_true (by rw [List.length_map]; omega)
    repeat' first | (with_reducible (show W _ _ _ _ _); with_reducible refine go2 ?_) | (with_reducible (show W _ _ _ _ _); with_reducible refine sg2 ?_ ?_ <;> intro _) | (with_reducible (show W _ _ _ _ _); with_reducible refine sc2 ?_ ?_ <;> intro _) | (with_reducible (show W _ _ (.code (.region 7 _ true) :: _) _ _); with_reducible refine W_draw [(0, []), (1, []), (2, []), (3, []), (4, []), (5, []), (6, []), (7, [])] [] (by kernel_rfl) ?_) | (with_reducible (show W _ _ (.code (.region 33 _ true) :: _) _ _); with_reducible refine W_draw [(0, []), (1, []), (2, [1]), (3, []), (4, [])] [1] (by kernel_rfl) ?_)
    all_goals exact ⟨j - 1, by omega, t + 1, by omega, rfl, hB2.next ((Fr.refl C [H.length + 5]).setq (by simp) _) (by simp) (by obtain ⟨D', m1, m2, m3, m4⟩ := hm; exact ⟨D', m1, m2, m3, (hget_set_ne (by omega) _).trans m4⟩) ⟨pl.set t (t : Int), by rw [List.length_set]; exact hpl, by rw [List.map_set]; exact hget_set_same g5 _⟩ (by obtain ⟨w, w1, w2⟩ := hw; exact ⟨w, w1, (hget_set_ne (by omega) _).trans w2⟩)⟩
  · have htr2 : ((t : Int) < (r : Int)) = False := eq_false htr
    repeat' first | (with_reducible (show W _ _ _ _ _); with_reducible refine go2 ?_) | (with_reducible (show W _ _ _ _ _); with_reducible refine sg2 ?_ ?_ <;> intro _) | (with_reducible (show W _ _ (.code (.region 7 _ true) :: _) _ _); with_reducible refine W_draw [(0, []), (1, []), (2, []), (3, []), (4, []), (5, []), (6, []), (7, [])] [] (by kernel_rfl) ?_) | (with_reducible (show W _ _ (.code (.region 33 _ true) :: _) _ _); with_reducible refine W_draw [(0, []), (1, []), (2, [1]), (3, []), (4, [])] [1] (by kernel_rfl) ?_)
    have hrow : ∃ hi, Bs H C r N 0 hi := ⟨r, hB⟩
    refine W_for (fun j ρ C => ∃ hi : Nat, hi = j ∧ ρ 2 = .ptr (H.length + 1) 0 ∧ ρ 3 = .ptr (H.length + 2) 0 ∧ ρ 4 = i64 0 ∧ ρ 6 = .ptr (H.length + 4) 0 ∧ ρ 7 = .ptr (H.length + 7) 0 ∧ Bs H C r N 0 hi) r ?_ ?_
    · exact ⟨r, rfl, h2, h3, h4, h6, h7, hB⟩
    clear h2 h3 h4 h6 h7 h41 h42 hB hrow htr htr2 ht
    rintro j ρ C ⟨hi, rfl, h2, h3, h4, h6, h7, hB⟩
    have hB2 := hB
    obtain ⟨hO, c1, c2, c4, c7, ⟨D', m1, m2, m3, c3⟩, ⟨pl, hpl, c5⟩, ⟨pw, hpw, c6⟩, hle⟩ := hB
    have eh : IntKind.i64.wrap ((hi : Int) - 1) = (hi : Int) - 1 := wrap_i64 (by omega)
    repeat' first | (with_reducible (show W _ _ _ _ _); with_reducible refine go2 ?_) | (with_reducible (show W _ _ _ _ _); with_reducible refine sg2 ?_ ?_ <;> intro _) | (with_reducible (show W _ _ (.code (.region 7 _ true) :: _) _ _); with_reducible refine W_draw [(0, []), (1, []), (2, []), (3, []), (4, []), (5, []), (6, []), (7, [])] [] (by kernel_rfl) ?_) | (with_reducible (show W _ _ (.code (.region 33 _ true) :: _) _ _); with_reducible refine W_draw [(0, []), (1, []), (2, [1]), (3, []), (4, [])] [1] (by kernel_rfl) ?_)
    refine W_for (fun j' ρ C4 => j' ≤ hi ∧ ρ 2 = .ptr (H.length + 1) 0 ∧ ρ 3 = .ptr (H.length + 2) 0 ∧ ρ 4 = i64 0 ∧ ρ 6 = .ptr (H.length + 4) 0 ∧ ρ 7 = .ptr (H.length + 7) 0 ∧ ρ 9 = i64 ((j' : Int) - 1) ∧ C4 = C) hi ?_ ?_
    · exact ⟨Nat.le_refl _, h2, h3, h4, h6, h7, rfl, rfl⟩
    clear h2 h3 h4 h6 h7
    rintro j' ρ' C4 ⟨hj, h2, h3, h4, h6, h7, h9, rfl⟩
    match j', hj with
    | 0, _ =>
      have e0 : ((0 : Nat) : Int) - 1 = -1 := by decide
      rw [e0] at h9
      repeat' first | (with_reducible (show W _ _ _ _ _); with_reducible refine go2 ?_) | (with_reducible (show W _ _ _ _ _); with_reducible refine sg2 ?_ ?_ <;> intro _) | (with_reducible (show W _ _ (.code (.region 7 _ true) :: _) _ _); with_reducible refine W_draw [(0, []), (1, []), (2, []), (3, []), (4, []), (5, []), (6, []), (7, [])] [] (by kernel_rfl) ?_) | (with_reducible (show W _ _ (.code (.region 33 _ true) :: _) _ _); with_reducible refine W_draw [(0, []), (1, []), (2, [1]), (3, []), (4, [])] [1] (by kernel_rfl) ?_)
      refine W_for (fun j ρ C => ∃ lo hi : Nat, lo + j = hi ∧ ρ 2 = .ptr (H.length + 1) 0 ∧ ρ 3 = .ptr (H.length + 2) 0 ∧ ρ 4 = i64 0 ∧ ρ 6 = .ptr (H.length + 4) 0 ∧ ρ 7 = .ptr (H.length + 7) 0 ∧ Bs H C r N lo hi) hi ?_ ?_
      · exact ⟨0, hi, by omega, h2, h3, h4, h6, h7, hB2⟩
      clear h2 h3 h4 h6 h7 h9 hB2 hO c1 c2 c4 c7 m1 m2 m3 c3 hpl c5 hpw c6 hle eh e0 hj
      rintro j ρ C ⟨lo, hi, hlh, h2, h3, h4, h6, h7, hB⟩
      have hB2 := hB
      obtain ⟨hO, c1, c2, c4, c7, ⟨D', m1, m2, m3, c3⟩, ⟨pl, hpl, c5⟩, ⟨pw, hpw, c6⟩, hle⟩ := hB
      repeat' first | (with_reducible (show W _ _ _ _ _); with_reducible refine go2 ?_) | (with_reducible (show W _ _ _ _ _); with_reducible refine sg2 ?_ ?_ <;> intro _) | (with_reducible (show W _ _ (.code (.region 7 _ true) :: _) _ _); with_reducible refine W_draw [(0, []), (1, []), (2, []), (3, []), (4, []), (5, []), (6, []), (7, [])] [] (by kernel_rfl) ?_) | (with_reducible (show W _ _ (.code (.region 33 _ true) :: _) _ _); with_reducible refine W_draw [(0, []), (1, []), (2, [1]), (3, []), (4, [])] [1] (by kernel_rfl) ?_)
      refine W_for (fun j' ρ C4 => ∃ i : Nat, i + j' = hi ∧ lo ≤ i ∧ ρ 2 = .ptr (H.length + 1) 0 ∧ ρ 3 = .ptr (H.length + 2) 0 ∧ ρ 4 = i64 0 ∧ ρ 6 = .ptr (H.length + 4) 0 ∧ ρ 7 = .ptr (H.length + 7) 0 ∧ ρ 10 = i64 (i : Int) ∧ C4 = C) (hi - lo) ?_ ?_
      · exact ⟨lo, by omega, Nat.le_refl _, h2, h3, h4, h6, h7, rfl, rfl⟩
      clear h2 h3 h4 h6 h7
      rintro j' ρ' C4 ⟨i, hij, hli, h2, h3, h4, h6, h7, h10, rfl⟩
      by_cases hih : (i : Int) < (hi : Int)
      · have hih2 : ((i : Int) < (hi : Int)) = True := eq_true hih
        have e2 : IntKind.i64.wrap ((i : Int) + 1) = ((i + 1 : Nat) : Int) := by rw [wrap_i64 (by omega)]; omega
        have el : IntKind.i64.wrap ((lo : Int) + 1) = ((lo + 1 : Nat) : Int) := by rw [wrap_i64 (by omega)]; omega
        repeat' first | (with_reducible (show W _ _ _ _ _); with_reducible refine go2 ?_) | (with_reducible (show W _ _ _ _ _); with_reducible refine sg2 ?_ ?_ <;> intro _) | (with_reducible (show W _ _ (.code (.region 7 _ true) :: _) _ _); with_reducible refine W_draw [(0, []), (1, []), (2, []), (3, []), (4, []), (5, []), (6, []), (7, [])] [] (by kernel_rfl) ?_) | (with_reducible (show W _ _ (.code (.region 33 _ true) :: _) _ _); with_reducible refine W_draw [(0, []), (1, []), (2, [1]), (3, []), (4, [])] [1] (by kernel_rfl) ?_)
        (with_reducible (show CallK _ _ _ _ _ _ _ _ _ _ _)); with_reducible refine cx2 (lone_spec m1 m3 c3 (i : Int) (lo : Int) (hi : Int) true ⟨by omega, by omega⟩) ?_
        rintro u' H' ⟨b, -, rfl, rfl⟩
        cases b with
        | false =>
          repeat' first | (with_reducible (show W _ _ _ _ _); with_reducible refine go2 ?_) | (with_reducible (show W _ _ _ _ _); with_reducible refine sg2 ?_ ?_ <;> intro _) | (with_reducible (show W _ _ _ _ _); with_reducible refine sc2 ?_ ?_ <;> intro _) | (with_reducible (show W _ _ (.code (.region 7 _ true) :: _) _ _); with_reducible refine W_draw [(0, []), (1, []), (2, []), (3, []), (4, []), (5, []), (6, []), (7, [])] [] (by kernel_rfl) ?_) | (with_reducible (show W _ _ (.code (.region 33 _ true) :: _) _ _); with_reducible refine W_draw [(0, []), (1, []), (2, [1]), (3, []), (4, [])] [1] (by kernel_rfl) ?_)
          exact ⟨j' - 1, by omega, i + 1, by omega, by omega, rfl⟩
        | true =>
          repeat' first | (with_reducible (show W _ _ _ _ _); with_reducible refine go2 ?_) | (with_reducible (show W _ _ _ _ _); with_reducible refine sg2 ?_ ?_ <;> intro _) | (with_reducible (show W _ _ (.code (.region 7 _ true) :: _) _ _); with_reducible refine W_draw [(0, []), (1, []), (2, []), (3, []), (4, []), (5, []), (6, []), (7, [])] [] (by kernel_rfl) ?_) | (with_reducible (show W _ _ (.code (.region 33 _ true) :: _) _ _); with_reducible refine W_draw [(0, []), (1, []), (2, [1]), (3, []), (4, [])] [1] (by kernel_rfl) ?_)
          (with_reducible (show CallK _ _ _ _ _ _ _ _ _ _ _)); with_reducible refine cx2 (swap_spec (P1 := H.length + 5) (P2 := H.length + 6) (lo := (lo : Int)) (hi := (hi : Int)) (pl := pl) (i := i) (k := lo) m1 m2 m3 c3 c5 (by rw [Int.toNat_natCast]; exact hpl) (by rw [Int.toNat_natCast]; exact c7) ⟨by omega, by omega, by omega⟩ (by omega) (by omega)) ?_
          rintro u' C5 ⟨pl3, D3, rfl, hF, f1, f2, f3, f4, f5⟩
          have hB5 := hB2.next hF (by simp) ⟨D3, f2, f3, by rw [f2.len, hNN], f5⟩ ⟨pl3, by rw [f1, Int.toNat_natCast], f4⟩ ⟨pw, hpw, hF.get c6 (by simp)⟩
          have d7 := hB5.c7
          repeat' first | (with_reducible (show W _ _ _ _ _); with_reducible refine go2 ?_) | (with_reducible (show W _ _ _ _ _); with_reducible refine sg2 ?_ ?_ <;> intro _) | (with_reducible (show W _ _ _ _ _); with_reducible refine sc2 ?_ ?_ <;> intro _) | (with_reducible (show W _ _ (.code (.region 7 _ true) :: _) _ _); with_reducible refine W_draw [(0, []), (1, []), (2, []), (3, []), (4, []), (5, []), (6, []), (7, [])] [] (by kernel_rfl) ?_) | (with_reducible (show W _ _ (.code (.region 33 _ true) :: _) _ _); with_reducible refine W_draw [(0, []), (1, []), (2, [1]), (3, []), (4, [])] [1] (by kernel_rfl) ?_)
          exact ⟨hi - (lo + 1), by omega, lo + 1, by rw [show lo + 1 + (hi - (lo + 1)) = hi by omega]; exact hB5.bounds ⟨by omega, by omega⟩⟩
      · have hih2 : ((i : Int) < (hi : Int)) = False := eq_false hih
        repeat' first | (with_reducible (show W _ _ _ _ _); with_reducible refine go2 ?_) | (with_reducible (show W _ _ _ _ _); with_reducible refine sg2 ?_ ?_ <;> intro _) | (with_reducible (show W _ _ (.code (.region 7 _ true) :: _) _ _); with_reducible refine W_draw [(0, []), (1, []), (2, []), (3, []), (4, []), (5, []), (6, []), (7, [])] [] (by kernel_rfl) ?_) | (with_reducible (show W _ _ (.code (.region 33 _ true) :: _) _ _); with_reducible refine W_draw [(0, []), (1, []), (2, [1]), (3, []), (4, [])] [1] (by kernel_rfl) ?_)
        refine W_for (fun j ρ C => ∃ (rd : Nat) (ag : Bool), rd + j = 20 ∧ ρ 2 = .ptr (H.length + 1) 0 ∧ ρ 3 = .ptr (H.length + 2) 0 ∧ ρ 6 = .ptr (H.length + 4) 0 ∧ ρ 7 = .ptr (H.length + 7) 0 ∧ ρ 11 = bl ag ∧ ρ 12 = i64 (rd : Int) ∧ Bs H C r N lo hi) 20 ?_ ?_
        · exact ⟨0, true, by omega, h2, h3, h6, h7, rfl, rfl, hB2⟩
        clear h2 h3 h4 h6 h7 h10 hB2 hO c1 c2 c4 c7 m1 m2 m3 c3 c5 c6
        rintro j ρ C ⟨rd, ag, hrd, h2, h3, h6, h7, h11, h12, hB⟩
        have hB2 := hB
        obtain ⟨hO, c1, c2, c4, c7, ⟨D', m1, m2, m3, c3⟩, ⟨pl, hpl, c5⟩, ⟨pw, hpw, c6⟩, _⟩ := hB
        have g1 := lt_of_hget c1
        have g2 := lt_of_hget c2
        have er : IntKind.i64.wrap ((rd : Int) + 1) = ((rd + 1 : Nat) : Int) := by rw [wrap_i64 (by omega)]; omega
        have hend : ∀ x y : Option MO, hget ((C.set (H.length + 1) x).set (H.length + 2) y) (H.length + 1) = x := fun x y => (hget_set_ne (by omega) _).trans (hget_set_same g1 _)
        have hend2 : ∀ x y : Option MO, hget ((C.set (H.length + 1) x).set (H.length + 2) y) (H.length + 2) = y := fun x y => hget_set_same (by rw [List.length_set]; exact g2) _
        have hend3 : ∀ x : Option MO, hget (C.set (H.length + 1) x) (H.length + 2) = _ := fun x => (hget_set_ne (by omega) _).trans c2
        have hfin : Old H ((C.set (H.length + 1) (some ⟨[i64 (r : Int), i64 (r : Int), i64 (r : Int), .slice (H.length + 3) 0 N N 1], true⟩)).set (H.length + 2) (some ⟨[.slice (H.length + 5) 0 r r 1, .slice (H.length + 6) 0 r r 1, i64 (lo : Int), i64 (hi : Int)], true⟩)) := (hO.setq _ (by omega)).setq _ (by omega)
        have hend5 : ∀ x : Option MO, hget (C.set (H.length + 1) x) (H.length + 7) = _ := fun x => (hget_set_ne (by omega) _).trans c7
        by_cases hgo : ag = true ∧ (rd : Int) < 20
        · obtain ⟨rfl, hr20⟩ := hgo
          have hr202 : ((rd : Int) < 20) = True := eq_true hr20
          repeat' first | (with_reducible (show W _ _ _ _ _); with_reducible refine go2 ?_) | (with_reducible (show W _ _ _ _ _); with_reducible refine sg2 ?_ ?_ <;> intro _) | (with_reducible (show W _ _ (.code (.region 7 _ true) :: _) _ _); with_reducible refine W_draw [(0, []), (1, []), (2, []), (3, []), (4, []), (5, []), (6, []), (7, [])] [] (by kernel_rfl) ?_) | (with_reducible (show W _ _ (.code (.region 33 _ true) :: _) _ _); with_reducible refine W_draw [(0, []), (1, []), (2, [1]), (3, []), (4, [])] [1] (by kernel_rfl) ?_)
          refine W_for (fun j' ρ C4 => ∃ (i : Nat) (ag : Bool), i + j' = hi ∧ lo ≤ i ∧ ρ 2 = .ptr (H.length + 1) 0 ∧ ρ 3 = .ptr (H.length + 2) 0 ∧ ρ 6 = .ptr (H.length + 4) 0 ∧ ρ 7 = .ptr (H.length + 7) 0 ∧ ρ 11 = bl ag ∧ ρ 12 = i64 (rd : Int) ∧ ρ 13 = i64 (i : Int) ∧ Bs H C4 r N lo hi) (hi - lo) ?_ ?_
          · exact ⟨lo, false, by omega, Nat.le_refl _, h2, h3, h6, h7, rfl, h12, rfl, hB2⟩
          clear h2 h3 h6 h7 h11 h12 hB2 hO c1 c2 c4 c7 m1 m2 m3 c3 hpl c5 hpw c6 g1 g2 hend hend2 hend3 hend5 hfin
          rintro j' ρ' C4 ⟨i, ag, hij, hli, h2, h3, h6, h7, h11, h12, h13, hB⟩
          have hB2 := hB
          obtain ⟨hO, c1, c2, c4, c7, ⟨D', m1, m2, m3, c3⟩, ⟨pl, hpl, c5⟩, ⟨pw, hpw, c6⟩, _⟩ := hB
          by_cases hih : (i : Int) < (hi : Int)
          · have hih2 : ((i : Int) < (hi : Int)) = True := eq_true hih
            have e2 : IntKind.i64.wrap ((i : Int) + 1) = ((i + 1 : Nat) : Int) := by rw [wrap_i64 (by omega)]; omega
            repeat' first | (with_reducible (show W _ _ _ _ _); with_reducible refine go2 ?_) | (with_reducible (show W _ _ _ _ _); with_reducible refine sg2 ?_ ?_ <;> intro _) | (with_reducible (show W _ _ (.code (.region 7 _ true) :: _) _ _); with_reducible refine W_draw [(0, []), (1, []), (2, []), (3, []), (4, []), (5, []), (6, []), (7, [])] [] (by kernel_rfl) ?_) | (with_reducible (show W _ _ (.code (.region 33 _ true) :: _) _ _); with_reducible refine W_draw [(0, []), (1, []), (2, [1]), (3, []), (4, [])] [1] (by kernel_rfl) ?_)
            (with_reducible (show CallK _ _ _ _ _ _ _ _ _ _ _)); with_reducible refine cx2 (level_spec (P1 := H.length + 5) (P2 := H.length + 6) (lo := (lo : Int)) (hi := (hi : Int)) (pw := pw) (i := i) m1 m2 m3 c3 c6 (by rw [Int.toNat_natCast]; exact hpw) (by rw [Int.toNat_natCast]; exact c7) ⟨by omega, by omega, by omega⟩ ⟨by omega, by omega⟩ (by omega)) ?_
            rintro u' C5 ⟨b, pw3, D3, rfl, hF, f1, f2, f3, f4, f5⟩
            have hB5 := hB2.next hF (by simp) ⟨D3, f2, f3, by rw [f2.len, hNN], f5⟩ ⟨pl, hpl, hF.get c5 (by simp)⟩ ⟨pw3, by rw [f1, Int.toNat_natCast], f4⟩
            cases b
            all_goals
              repeat' first | (with_reducible (show W _ _ _ _ _); with_reducible refine go2 ?_) | (with_reducible (show W _ _ _ _ _); with_reducible refine sg2 ?_ ?_ <;> intro _) | (with_reducible (show W _ _ _ _ _); with_reducible refine sc2 ?_ ?_ <;> intro _) | (with_reducible (show W _ _ (.code (.region 7 _ true) :: _) _ _); with_reducible refine W_draw [(0, []), (1, []), (2, []), (3, []), (4, []), (5, []), (6, []), (7, [])] [] (by kernel_rfl) ?_) | (with_reducible (show W _ _ (.code (.region 33 _ true) :: _) _ _); with_reducible refine W_draw [(0, []), (1, []), (2, [1]), (3, []), (4, [])] [1] (by kernel_rfl) ?_)
              all_goals exact ⟨j' - 1, by omega, i + 1, _, by omega, by omega, rfl, rfl⟩
          · have hih2 : ((i : Int) < (hi : Int)) = False := eq_false hih
            repeat' first | (with_reducible (show W _ _ _ _ _); with_reducible refine go2 ?_) | (with_reducible (show W _ _ _ _ _); with_reducible refine sg2 ?_ ?_ <;> intro _) | (with_reducible (show W _ _ _ _ _); with_reducible refine sc2 ?_ ?_ <;> intro _) | (with_reducible (show W _ _ (.code (.region 7 _ true) :: _) _ _); with_reducible refine W_draw [(0, []), (1, []), (2, []), (3, []), (4, []), (5, []), (6, []), (7, [])] [] (by kernel_rfl) ?_) | (with_reducible (show W _ _ (.code (.region 33 _ true) :: _) _ _); with_reducible refine W_draw [(0, []), (1, []), (2, [1]), (3, []), (4, [])] [1] (by kernel_rfl) ?_)
            exact ⟨j - 1, by omega, rd + 1, _, by omega, rfl, rfl⟩
        · have hend4 : Hid2 (Old H C) := hO
          cases ag with
          | false =>
            repeat' first | (with_reducible (show W _ _ _ _ _); with_reducible refine go2 ?_) | (with_reducible (show W _ _ _ _ _); with_reducible refine sg2 ?_ ?_ <;> intro _) | (with_reducible (show W _ _ _ _ _); with_reducible refine sc2 ?_ ?_ <;> intro _) | (with_reducible (show W _ _ (.code (.region 7 _ true) :: _) _ _); with_reducible refine W_draw [(0, []), (1, []), (2, []), (3, []), (4, []), (5, []), (6, []), (7, [])] [] (by kernel_rfl) ?_) | (with_reducible (show W _ _ (.code (.region 33 _ true) :: _) _ _); with_reducible refine W_draw [(0, []), (1, []), (2, [1]), (3, []), (4, [])] [1] (by kernel_rfl) ?_)
            exact .inr ⟨H.length + 3, H.length + 5, H.length + 6, pl, pw, (lo : Int), (hi : Int), rfl, hpl, hpw, (hget_set_ne (by omega) _).trans ((hget_set_ne (by omega) _).trans c5), (hget_set_ne (by omega) _).trans ((hget_set_ne (by omega) _).trans c6)⟩
          | true =>
            have hr202 : ((rd : Int) < 20) = False := eq_false fun e => hgo ⟨rfl, e⟩
            repeat' first | (with_reducible (show W _ _ _ _ _); with_reducible refine go2 ?_) | (with_reducible (show W _ _ _ _ _); with_reducible refine sg2 ?_ ?_ <;> intro _) | (with_reducible (show W _ _ _ _ _); with_reducible refine sc2 ?_ ?_ <;> intro _) | (with_reducible (show W _ _ (.code (.region 7 _ true) :: _) _ _); with_reducible refine W_draw [(0, []), (1, []), (2, []), (3, []), (4, []), (5, []), (6, []), (7, [])] [] (by kernel_rfl) ?_) | (with_reducible (show W _ _ (.code (.region 33 _ true) :: _) _ _); with_reducible refine W_draw [(0, []), (1, []), (2, [1]), (3, []), (4, [])] [1] (by kernel_rfl) ?_)
            exact .inr ⟨H.length + 3, H.length + 5, H.length + 6, pl, pw, (lo : Int), (hi : Int), rfl, hpl, hpw, (hget_set_ne (by omega) _).trans ((hget_set_ne (by omega) _).trans c5), (hget_set_ne (by omega) _).trans ((hget_set_ne (by omega) _).trans c6)⟩
    | i + 1, hj =>
      have e0 : ((i + 1 : Nat) : Int) - 1 = (i : Int) := by omega
      rw [e0] at h9
      have e1 : (0 ≤ (i : Int)) = True := eq_true (by omega)
      have e2 : IntKind.i64.wrap ((i : Int) - 1) = (i : Int) - 1 := wrap_i64 (by omega)
      have eh' : IntKind.i64.wrap ((hi : Int) - 1) = ((hi - 1 : Nat) : Int) := by rw [eh]; omega
      clear eh
      repeat' first | (with_reducible (show W _ _ _ _ _); with_reducible refine go2 ?_) | (with_reducible (show W _ _ _ _ _); with_reducible refine sg2 ?_ ?_ <;> intro _) | (with_reducible (show W _ _ (.code (.region 7 _ true) :: _) _ _); with_reducible refine W_draw [(0, []), (1, []), (2, []), (3, []), (4, []), (5, []), (6, []), (7, [])] [] (by kernel_rfl) ?_) | (with_reducible (show W _ _ (.code (.region 33 _ true) :: _) _ _); with_reducible refine W_draw [(0, []), (1, []), (2, [1]), (3, []), (4, [])] [1] (by kernel_rfl) ?_)
      (with_reducible (show CallK _ _ _ _ _ _ _ _ _ _ _)); with_reducible refine cx2 (lone_spec m1 m3 c3 (i : Int) 0 (hi : Int) false ⟨by omega, by omega⟩) ?_
      rintro u' H' ⟨b, -, rfl, rfl⟩
      cases b with
      | false =>
        repeat' first | (with_reducible (show W _ _ _ _ _); with_reducible refine go2 ?_) | (with_reducible (show W _ _ _ _ _); with_reducible refine sg2 ?_ ?_ <;> intro _) | (with_reducible (show W _ _ _ _ _); with_reducible refine sc2 ?_ ?_ <;> intro _) | (with_reducible (show W _ _ (.code (.region 7 _ true) :: _) _ _); with_reducible refine W_draw [(0, []), (1, []), (2, []), (3, []), (4, []), (5, []), (6, []), (7, [])] [] (by kernel_rfl) ?_) | (with_reducible (show W _ _ (.code (.region 33 _ true) :: _) _ _); with_reducible refine W_draw [(0, []), (1, []), (2, [1]), (3, []), (4, [])] [1] (by kernel_rfl) ?_)
        exact ⟨i, by omega, by omega, rfl⟩
      | true =>
        have g7 := lt_of_hget c7
        have hs4 : ∀ x, hget (H'.set (H.length + 7) x) (H.length + 4) = _ := fun x => (hget_set_ne (by omega) _).trans c4
        have hs7 : ∀ x, hget (H'.set (H.length + 7) x) (H.length + 7) = x := fun x => hget_set_same g7 x
        repeat' first | (with_reducible (show W _ _ _ _ _); with_reducible refine go2 ?_) | (with_reducible (show W _ _ _ _ _); with_reducible refine sg2 ?_ ?_ <;> intro _) | (with_reducible (show W _ _ (.code (.region 7 _ true) :: _) _ _); with_reducible refine W_draw [(0, []), (1, []), (2, []), (3, []), (4, []), (5, []), (6, []), (7, [])] [] (by kernel_rfl) ?_) | (with_reducible (show W _ _ (.code (.region 33 _ true) :: _) _ _); with_reducible refine W_draw [(0, []), (1, []), (2, [1]), (3, []), (4, [])] [1] (by kernel_rfl) ?_)
        have hB3 := hB2.bounds (lo' := 0) (hi' := hi - 1) ⟨by omega, by omega⟩
        have hB4 := hB3
        obtain ⟨_, _, _, _, d7, ⟨D2, n1, n2, n3, d3⟩, ⟨pl2, hpl2, d5⟩, ⟨pw2, hpw2, d6⟩, _⟩ := hB3
        (with_reducible (show CallK _ _ _ _ _ _ _ _ _ _ _)); with_reducible refine cx2 (swap_spec (P1 := H.length + 5) (P2 := H.length + 6) (lo := ((0 : Nat) : Int)) (hi := ((hi - 1 : Nat) : Int)) (pl := pl2) (i := i) (k := hi - 1) n1 n2 n3 d3 d5 (by rw [Int.toNat_natCast]; exact hpl2) (by rw [Int.toNat_natCast]; exact d7) ⟨by omega, by omega, by omega⟩ (by omega) (by omega)) ?_
        rintro u' C5 ⟨pl3, D3, rfl, hF, f1, f2, f3, f4, f5⟩
        have hB5 := hB4.next hF (by simp) ⟨D3, f2, f3, by rw [f2.len, hNN], f5⟩ ⟨pl3, by rw [f1, Int.toNat_natCast], f4⟩ ⟨pw2, hpw2, hF.get d6 (by simp)⟩
        repeat' first | (with_reducible (show W _ _ _ _ _); with_reducible refine go2 ?_) | (with_reducible (show W _ _ _ _ _); with_reducible refine sg2 ?_ ?_ <;> intro _) | (with_reducible (show W _ _ _ _ _); with_reducible refine sc2 ?_ ?_ <;> intro _) | (with_reducible (show W _ _ (.code (.region 7 _ true) :: _) _ _); with_reducible refine W_draw [(0, []), (1, []), (2, []), (3, []), (4, []), (5, []), (6, []), (7, [])] [] (by kernel_rfl) ?_) | (with_reducible (show W _ _ (.code (.region 33 _ true) :: _) _ _); with_reducible refine W_draw [(0, []), (1, []), (2, [1]), (3, []), (4, [])] [1] (by kernel_rfl) ?_)
        exact ⟨hi - 1, by omega, hi - 1, rfl, hB5⟩
end Go.Proofs.YtaojabgaebbckaaGreatDoor.M
