/- The law EigBacks, in the small machine. -/
import Derived.Test.YtaojabgaebbckaaGreatDoorC83
import Derived.Test.YtaojabgaebbckaaGreatDoorC84
import Derived.Test.YtaojabgaebbckaaGreatDoorC64
set_option linter.unusedSimpArgs false
set_option linter.unusedVariables false
set_option pp.deepTerms false
set_option pp.maxSteps 1500
set_option maxRecDepth 10000
set_option maxHeartbeats 4000000
namespace Go.Proofs.YtaojabgaebbckaaGreatDoor.M
open Go Go.Proofs

theorem Old.exK {H C : MH} (h : Old H C) : ∃ J, C = H ++ J := by
  refine ⟨C.drop H.length, ?_⟩
  have : C.take H.length = H := by
    refine List.ext_getElem? fun i => ?_
    rw [List.getElem?_take]
    split
    · exact h.2 i (by assumption)
    · rw [List.getElem?_eq_none (by omega)]
  rw [← List.take_append_drop H.length C, this]
  simp
abbrev pairs (p2 p3 r : Nat) (lo hi : Int) : MV := .agg [i64 0, i64 0, .slice p2 0 r r 1, .slice p3 0 r r 1, i64 lo, i64 hi, i64 0, i64 0, i64 0, .lit (.slice none 0 0), .lit (.slice none 0 0), .lit (.slice none 0 0), .lit (.slice none 0 0), .lit (.slice none 0 0)]
/-- eig.Pairs.Back: both parts, or the greater error. -/
theorem pairs_back {r p2 p3 : Nat} (hr : r ≤ 1000) {lo hi : Int} {vr vi : MV} {pl pw re im : List Int} {H : MH} (h1 : Sl H vr re) (hI1 : InD re) (h2 : Sl H vi im) (hI2 : InD im) (hpl : pl.length = r) (hpw : pw.length = r) {rw rw' : Bool} (hp2 : hget H p2 = some ⟨pl.map i64, rw⟩) (hp3 : hget H p3 = some ⟨pw.map i64, rw'⟩) (left : Bool) (o1 : one vr = true) (o2 : one vi = true) :
    Spec Tryz.prog 11 [pairs p2 p3 r lo hi, .agg [vr, vi], bl left] H fun u H' =>
      ((¬ bkE pl pw re left r = 0 ∨ ¬ bkE pl pw im left r = 0) ∧ u = .tup [.agg [.lit (.slice none 0 0), .lit (.slice none 0 0)], u8 0, i64 (if bkE pl pw re left r < bkE pl pw im left r then bkE pl pw im left r else bkE pl pw re left r)] ∧ Old H H') ∨
      ∃ p q : Nat, bkE pl pw re left r = 0 ∧ bkE pl pw im left r = 0 ∧ u = .tup [.agg [.slice p 0 r r 1, .slice q 0 r r 1], u8 (bits .or .u8 ((backL pl pw re left r).getD ([], 0)).2 ((backL pl pw im left r).getD ([], 0)).2), i64 0] ∧ H.length ≤ p ∧ H.length ≤ q ∧ hget H' p = some ⟨((backL pl pw re left r).getD ([], 0)).1.map u64, true⟩ ∧ hget H' q = some ⟨((backL pl pw im left r).getD ([], 0)).1.map u64, true⟩ ∧ Old H H' := by
  have B1 := fun (C : MH) (hO : Old H C) => back_all (lo := lo) (hi := hi) hr (hO.sl h1) hI1 hpl hpw (hO.get hp2) (hO.get hp3) left
  have B2 := fun (C : MH) (hO : Old H C) => back_all (lo := lo) (hi := hi) hr (hO.sl h2) hI2 hpl hpw (hO.get hp2) (hO.get hp3) left
  generalize bkE pl pw re left r = e1 at B1 ⊢
  generalize bkE pl pw im left r = e2 at B2 ⊢
  generalize (backL pl pw re left r).getD ([], 0) = s1 at B1 ⊢
  generalize (backL pl pw im left r).getD ([], 0) = s2 at B2 ⊢
  have hsub : ∀ (L C : MH), Old (H ++ L) C → Old H C := fun L C hO => ⟨by have := hO.1; simp at this; omega, fun q hq => by rw [hO.2 q (by simp; omega), List.getElem?_append_left hq]⟩
  refine enterS Tryz.func11 [.cell 6 36, .tmp 7, .tmp 8] ?_
  repeat' first | (with_reducible (show W _ _ _ _ _); with_reducible refine go2 ?_) | (with_reducible (show W _ _ _ _ _); with_reducible refine sg2 ?_ ?_ <;> intro _)
  (with_reducible (show CallK _ _ _ _ _ _ _ _ _ _ _)); with_reducible refine cx2 (B1 _ ((Old.refl H).app _)) ?_
  rintro u1 C1 (⟨g1, rfl, hO⟩ | ⟨p, g1, rfl, hp, hgp, hO⟩)
  all_goals
      have c0 := hO.get (p := H.length) (o := ⟨[i64 0, i64 0, .slice p2 0 r r 1, .slice p3 0 r r 1, i64 lo, i64 hi, i64 0, i64 0, i64 0, .lit (.slice none 0 0), .lit (.slice none 0 0), .lit (.slice none 0 0), .lit (.slice none 0 0), .lit (.slice none 0 0)], true⟩) hget_new'
      have c1 := hO.get (p := H.length + 1) (o := ⟨[vr, vi], true⟩) (hget_newL rfl)
      have c2 := hO.get (p := H.length + 2) (o := ⟨[.lit (.slice none 0 0), .lit (.slice none 0 0)], true⟩) (hget_newL rfl)
      have hO1 := hsub _ _ hO
      have k2 := lt_of_hget c2
      repeat' first | (with_reducible (show W _ _ _ _ _); with_reducible refine go2 ?_) | (with_reducible (show W _ _ _ _ _); with_reducible refine sg2 ?_ ?_ <;> intro _)
      (with_reducible (show CallK _ _ _ _ _ _ _ _ _ _ _)); with_reducible refine cx2 (B2 _ hO1) ?_
      rintro u2 C2 (⟨f1, rfl, hP⟩ | ⟨q, f1, rfl, hq, hgq, hP⟩)
      all_goals
        have d2 := hP.get c2
        have k3 := lt_of_hget d2
        have hO2 : Old H C2 := ⟨by have := hO1.1; have := hP.1; omega, fun t ht => by rw [hP.2 t (by have := hO1.1; omega), hO1.2 t ht]⟩
        have hs2 : ∀ x, hget (C2.set (H.length + 2) x) (H.length + 2) = x := fun x => hget_set_same k3 x
        repeat' first | (with_reducible (show W _ _ _ _ _); with_reducible refine go2 ?_) | (with_reducible (show W _ _ _ _ _); with_reducible refine sg2 ?_ ?_ <;> intro _) | (with_reducible (show W _ _ _ _ _); with_reducible refine sc2 ?_ ?_ <;> intro _)
        all_goals first
          | exact .inl ⟨.inl trivial, hO2.setq _ (by omega)⟩
          | exact .inl (hO2.setq _ (by omega))
          | (have hp' : H.length + 3 ≤ p := by simpa using hp
             have hq' : H.length + 3 ≤ q := by have := hO.1; simp at this; omega
             exact ⟨p, q, rfl, by omega, by omega, (hget_set_ne (by omega) _).trans (hP.get hgp), (hget_set_ne (by omega) _).trans hgq, hO2.setq _ (by omega)⟩)
theorem ebacks (n0 : Int) {v vr vi : MV} {xs re im : List Int} {H : MH} (hv : Sl H v xs) (hI : InD xs) (hr : Sl H vr re) (hrI : InD re) (hi : Sl H vi im) (hiI : InD im) (holes : Int) (left : Bool) :
    Spec Tryz.prog 4 [i64 n0, v, u64 holes, .agg [vr, vi], bl left] H fun u H' => u = bl true ∧ H' = H := by
  have hl1 := len22 hv
  have hl2 := len22 hr
  have hl3 := len22 hi
  have h7 := and7 n0
  have o1 : ∀ {v xs}, Sl H v xs → one v = true := fun {v xs} h => by rcases h with ⟨_, a, rfl⟩ | ⟨_, _, _, _, rfl, _⟩ <;> rfl
  have or := o1 hr
  have oi := o1 hi
  clear o1
  refine Spec.scalar (enterS Tryz.func4 [.tmp 10] ?_)
  repeat' first | (with_reducible (show W _ _ _ _ _); with_reducible refine go2 ?_) | (with_reducible (show W _ _ _ _ _); with_reducible refine sg2 ?_ ?_ <;> intro _) | (with_reducible (show CallK _ _ _ _ _ _ _ _ _ _ _); with_reducible refine ce2 (head24_spec _) ?_) | (with_reducible (show W _ _ (.code (.region 19 _ true) :: _) _ _); with_reducible refine W_draw [(0, []), (1, []), (2, []), (3, []), (4, []), (5, []), (6, []), (7, []), (8, []), (9, []), (10, []), (11, []), (12, []), (13, []), (14, []), (15, []), (16, []), (17, []), (18, []), (19, []), (20, []), (21, [])] [] (by kernel_rfl) ?_)
  rename_i hlx hlr
  refine sc2 ?_ ?_ <;> intro hlm
  · repeat' first | (with_reducible (show W _ _ _ _ _); with_reducible refine go2 ?_) | (with_reducible (show W _ _ _ _ _); with_reducible refine sg2 ?_ ?_ <;> intro _) | (with_reducible (show W _ _ _ _ _); with_reducible refine sc2 ?_ ?_ <;> intro _) | (with_reducible (show W _ _ (.code (.region 19 _ true) :: _) _ _); with_reducible refine W_draw [(0, []), (1, []), (2, []), (3, []), (4, []), (5, []), (6, []), (7, []), (8, []), (9, []), (10, []), (11, []), (12, []), (13, []), (14, []), (15, []), (16, []), (17, []), (18, []), (19, []), (20, []), (21, [])] [] (by kernel_rfl) ?_)
    all_goals trivial
  repeat' first | (with_reducible (show W _ _ _ _ _); with_reducible refine go2 ?_) | (with_reducible (show W _ _ _ _ _); with_reducible refine sg2 ?_ ?_ <;> intro _) | (with_reducible (show W _ _ (.code (.region 19 _ true) :: _) _ _); with_reducible refine W_draw [(0, []), (1, []), (2, []), (3, []), (4, []), (5, []), (6, []), (7, []), (8, []), (9, []), (10, []), (11, []), (12, []), (13, []), (14, []), (15, []), (16, []), (17, []), (18, []), (19, []), (20, []), (21, [])] [] (by kernel_rfl) ?_)
  generalize bits .and .i64 n0 7 = r at h7
  obtain ⟨r, rfl⟩ := Int.eq_ofNat_of_zero_le h7.1
  have hr7 : r ≤ 7 := by omega
  obtain ⟨N, hN⟩ : ∃ N, r * r = N := ⟨_, rfl⟩
  have hn0 : 0 ≤ (r : Int) ∧ (r : Int) ≤ 4096 := by omega
  have hNN : ((r : Int) * r).toNat = N := by rw [← hN]; exact_mod_cast Int.toNat_natCast (r * r)
  (with_reducible (show CallK _ _ _ _ _ _ _ _ _ _ _)); with_reducible refine cm2 (made_spec hn0 (hv.app _) holes hNN) ?_
  have hE := made_ok hn0 xs holes N
  have hEI := made_in (n := (r : Int)) hI holes N
  generalize madeM (r : Int) xs holes N = E at hE hEI ⊢
  have hEl : E.length = N := by rw [hE.len, hNN]
  repeat' first | (with_reducible (show W _ _ _ _ _); with_reducible refine go2 ?_) | (with_reducible (show W _ _ _ _ _); with_reducible refine sg2 ?_ ?_ <;> intro _) | (with_reducible (show W _ _ (.code (.region 19 _ true) :: _) _ _); with_reducible refine W_draw [(0, []), (1, []), (2, []), (3, []), (4, []), (5, []), (6, []), (7, []), (8, []), (9, []), (10, []), (11, []), (12, []), (13, []), (14, []), (15, []), (16, []), (17, []), (18, []), (19, []), (20, []), (21, [])] [] (by kernel_rfl) ?_)
  (with_reducible (show CallK _ _ _ _ _ _ _ _ _ _ _)); with_reducible refine cx2 (bal_spec (rw := true) hr7 hE hEI hEl ?_) ?_
  · exact hget_newL rfl
  rintro u' C ⟨hO, rfl | ⟨p1, p2, p3, pl, pw, lo, hi2, rfl, hpl, hpw, c2, c3⟩⟩
  · repeat' first | (with_reducible (show W _ _ _ _ _); with_reducible refine go2 ?_) | (with_reducible (show W _ _ _ _ _); with_reducible refine sg2 ?_ ?_ <;> intro _) | (with_reducible (show W _ _ _ _ _); with_reducible refine sc2 ?_ ?_ <;> intro _) | (with_reducible (show W _ _ (.code (.region 19 _ true) :: _) _ _); with_reducible refine W_draw [(0, []), (1, []), (2, []), (3, []), (4, []), (5, []), (6, []), (7, []), (8, []), (9, []), (10, []), (11, []), (12, []), (13, []), (14, []), (15, []), (16, []), (17, []), (18, []), (19, []), (20, []), (21, [])] [] (by kernel_rfl) ?_)
    exact ((show Old H C from ⟨by have := hO.1; simp at this; omega, fun q hq => by rw [hO.2 q (by simp; omega), List.getElem?_append_left hq]⟩).app _).exK
  have hOH : Old H C := ⟨by have := hO.1; simp at this; omega, fun q hq => by rw [hO.2 q (by simp; omega), List.getElem?_append_left hq]⟩
  have b0 : hget C H.length = some ⟨[vr, vi], true⟩ := hO.get hget_new'
  have b0L : ∀ L : MH, hget (C ++ L) H.length = _ := fun L => hget_appL b0
  clear hO
  repeat' first | (with_reducible (show W _ _ _ _ _); with_reducible refine go2 ?_) | (with_reducible (show W _ _ _ _ _); with_reducible refine sg2 ?_ ?_ <;> intro _) | (with_reducible (show W _ _ (.code (.region 19 _ true) :: _) _ _); with_reducible refine W_draw [(0, []), (1, []), (2, []), (3, []), (4, []), (5, []), (6, []), (7, []), (8, []), (9, []), (10, []), (11, []), (12, []), (13, []), (14, []), (15, []), (16, []), (17, []), (18, []), (19, []), (20, []), (21, [])] [] (by kernel_rfl) ?_)
  (with_reducible (show CallK _ _ _ _ _ _ _ _ _ _ _)); with_reducible refine cx2 (pairs_back (lo := lo) (hi := hi2) (by omega) ((hOH.sl hr).app _) hrI ((hOH.sl hi).app _) hiI hpl hpw (hget_appL c2) (hget_appL c3) left or oi) ?_
  have B1 := fun (C1 : MH) (hO : Old C C1) => back_all (lo := lo) (hi := hi2) (by omega) (hO.sl (hOH.sl hr)) hrI hpl hpw (hO.get c2) (hO.get c3) left
  have B2 := fun (C1 : MH) (hO : Old C C1) => back_all (lo := lo) (hi := hi2) (by omega) (hO.sl (hOH.sl hi)) hiI hpl hpw (hO.get c2) (hO.get c3) left
  have hlen1 : bkE pl pw re left r = 0 → ((backL pl pw re left r).getD ([], 0)).1.length = r := fun e => by
    unfold bkE at e
    by_cases hx : re.length = r
    · rw [if_pos hx] at e
      cases hb : backL pl pw re left r with
      | none => rw [hb] at e; simp at e
      | some s => rw [← hx]; exact backL_len (hx ▸ hb)
    · rw [if_neg hx] at e; simp at e
  have hlen2 : bkE pl pw im left r = 0 → ((backL pl pw im left r).getD ([], 0)).1.length = r := fun e => by
    unfold bkE at e
    by_cases hx : im.length = r
    · rw [if_pos hx] at e
      cases hb : backL pl pw im left r with
      | none => rw [hb] at e; simp at e
      | some s => rw [← hx]; exact backL_len (hx ▸ hb)
    · rw [if_neg hx] at e; simp at e
  generalize bkE pl pw re left r = e1 at B1 hlen1 ⊢
  generalize bkE pl pw im left r = e2 at B2 hlen2 ⊢
  generalize (backL pl pw re left r).getD ([], 0) = s1 at B1 hlen1 ⊢
  generalize (backL pl pw im left r).getD ([], 0) = s2 at B2 hlen2 ⊢
  have hsub : ∀ (L C1 : MH), Old (C ++ L) C1 → Old C C1 := fun L C1 hO => ⟨by have := hO.1; simp at this; omega, fun q hq => by rw [hO.2 q (by simp; omega), List.getElem?_append_left hq]⟩
  rintro u1 C1 (⟨g1, rfl, hO⟩ | ⟨p, q, g1, g2, rfl, hp, hq, hgp, hgq, hO⟩)
  · have hO1 := hsub _ _ hO
    have bb := hO.get (p := C.length + 1) (o := ⟨[.slice p2 0 r r 1, .slice p3 0 r r 1, i64 lo, i64 hi2], true⟩) (hget_newL rfl)
    have b1 := hO1.get b0
    have bbL : ∀ L : MH, hget (C1 ++ L) (C.length + 1) = _ := fun L => hget_appL bb
    have b1L : ∀ L : MH, hget (C1 ++ L) H.length = _ := fun L => hget_appL b1
    repeat' first | (with_reducible (show W _ _ _ _ _); with_reducible refine go2 ?_) | (with_reducible (show W _ _ _ _ _); with_reducible refine sg2 ?_ ?_ <;> intro _) | (with_reducible (show W _ _ (.code (.region 19 _ true) :: _) _ _); with_reducible refine W_draw [(0, []), (1, []), (2, []), (3, []), (4, []), (5, []), (6, []), (7, []), (8, []), (9, []), (10, []), (11, []), (12, []), (13, []), (14, []), (15, []), (16, []), (17, []), (18, []), (19, []), (20, []), (21, [])] [] (by kernel_rfl) ?_)
    (with_reducible (show CallK _ _ _ _ _ _ _ _ _ _ _)); with_reducible refine cx2 (B1 _ (hO1.app _)) ?_
    rintro u2 C2 (⟨f1, rfl, hP⟩ | ⟨p', f1, rfl, hp', hgp', hP⟩)
    all_goals
      have hP1 : Old C C2 := ⟨by have := hP.1; have := hO1.1; simp at *; omega, fun t ht => by have := hO1.1; rw [hP.2 t (by simp; omega), List.getElem?_append_left (by omega), hO1.2 t ht]⟩
      have cb := hP.get (hget_appL bb)
      have cx := hP.get (p := C1.length) (o := ⟨[.lit (.slice none 0 0), .lit (.slice none 0 0)], true⟩) hget_new'
      have c1' := hP1.get b0
      repeat' first | (with_reducible (show W _ _ _ _ _); with_reducible refine go2 ?_) | (with_reducible (show W _ _ _ _ _); with_reducible refine sg2 ?_ ?_ <;> intro _) | (with_reducible (show W _ _ (.code (.region 19 _ true) :: _) _ _); with_reducible refine W_draw [(0, []), (1, []), (2, []), (3, []), (4, []), (5, []), (6, []), (7, []), (8, []), (9, []), (10, []), (11, []), (12, []), (13, []), (14, []), (15, []), (16, []), (17, []), (18, []), (19, []), (20, []), (21, [])] [] (by kernel_rfl) ?_)
      (with_reducible (show CallK _ _ _ _ _ _ _ _ _ _ _)); with_reducible refine cx2 (B2 _ hP1) ?_
      rintro u3 C3 (⟨f2, rfl, hQ⟩ | ⟨q', f2, rfl, hq', hgq', hQ⟩)
      all_goals
        have cx3 := hQ.get cx
        obtain ⟨J, hJ⟩ := Old.exK (H := H) (C := C3) ⟨by have := hQ.1; have := hP1.1; have := hOH.1; omega, fun t ht => by have := hP1.1; have := hOH.1; rw [hQ.2 t (by omega), hP1.2 t (by omega), hOH.2 t ht]⟩
        have hJ2 : Hid2 (C3 = H ++ J) := hJ
        clear hJ
        repeat' first | (with_reducible (show W _ _ _ _ _); with_reducible refine go2 ?_) | (with_reducible (show W _ _ _ _ _); with_reducible refine sg2 ?_ ?_ <;> intro _) | (with_reducible (show W _ _ _ _ _); with_reducible refine sc2 ?_ ?_ <;> intro _) | (with_reducible (show W _ _ (.code (.region 19 _ true) :: _) _ _); with_reducible refine W_draw [(0, []), (1, []), (2, []), (3, []), (4, []), (5, []), (6, []), (7, []), (8, []), (9, []), (10, []), (11, []), (12, []), (13, []), (14, []), (15, []), (16, []), (17, []), (18, []), (19, []), (20, []), (21, [])] [] (by kernel_rfl) ?_)
        all_goals first
          | exact ⟨_, hJ2⟩
          | exact ⟨⟨_, hJ2⟩, rfl⟩
          | exact ⟨⟨_, hJ2⟩, by rw [show IntKind.i64.wrap (((0 : Nat) : Int) + ((0 : Nat) : Int)) = 0 from by decide]; rfl⟩
          | (exfalso; simp_all; done)
          | trace_state
  · have hO1 := hsub _ _ hO
    have bb := hO.get (p := C.length + 1) (o := ⟨[.slice p2 0 r r 1, .slice p3 0 r r 1, i64 lo, i64 hi2], true⟩) (hget_newL rfl)
    have b1 := hO1.get b0
    have bbL : ∀ L : MH, hget (C1 ++ L) (C.length + 1) = _ := fun L => hget_appL bb
    have b1L : ∀ L : MH, hget (C1 ++ L) H.length = _ := fun L => hget_appL b1
    repeat' first | (with_reducible (show W _ _ _ _ _); with_reducible refine go2 ?_) | (with_reducible (show W _ _ _ _ _); with_reducible refine sg2 ?_ ?_ <;> intro _) | (with_reducible (show W _ _ (.code (.region 19 _ true) :: _) _ _); with_reducible refine W_draw [(0, []), (1, []), (2, []), (3, []), (4, []), (5, []), (6, []), (7, []), (8, []), (9, []), (10, []), (11, []), (12, []), (13, []), (14, []), (15, []), (16, []), (17, []), (18, []), (19, []), (20, []), (21, [])] [] (by kernel_rfl) ?_)
    (with_reducible (show CallK _ _ _ _ _ _ _ _ _ _ _)); with_reducible refine cx2 (B1 _ (hO1.app _)) ?_
    rintro u2 C2 (⟨f1, rfl, hP⟩ | ⟨p', f1, rfl, hp', hgp', hP⟩)
    · exact absurd g1 f1
    have hP1 : Old C C2 := ⟨by have := hP.1; have := hO1.1; simp at *; omega, fun t ht => by have := hO1.1; rw [hP.2 t (by simp; omega), List.getElem?_append_left (by omega), hO1.2 t ht]⟩
    have cb := hP.get (hget_appL bb)
    have cx := hP.get (p := C1.length) (o := ⟨[.slice p 0 r r 1, .slice q 0 r r 1], true⟩) hget_new'
    have c1' := hP1.get b0
    repeat' first | (with_reducible (show W _ _ _ _ _); with_reducible refine go2 ?_) | (with_reducible (show W _ _ _ _ _); with_reducible refine sg2 ?_ ?_ <;> intro _) | (with_reducible (show W _ _ (.code (.region 19 _ true) :: _) _ _); with_reducible refine W_draw [(0, []), (1, []), (2, []), (3, []), (4, []), (5, []), (6, []), (7, []), (8, []), (9, []), (10, []), (11, []), (12, []), (13, []), (14, []), (15, []), (16, []), (17, []), (18, []), (19, []), (20, []), (21, [])] [] (by kernel_rfl) ?_)
    (with_reducible (show CallK _ _ _ _ _ _ _ _ _ _ _)); with_reducible refine cx2 (B2 _ hP1) ?_
    rintro u3 C3 (⟨f2, rfl, hQ⟩ | ⟨q', f2, rfl, hq', hgq', hQ⟩)
    · exact absurd g2 f2
    have cx3 := hQ.get cx
    have x1 := hQ.get (hP.get (hget_appL hgp))
    have x2 := hQ.get (hP.get (hget_appL hgq))
    have x3 := hQ.get hgp'
    obtain ⟨J, hJ⟩ := Old.exK (H := H) (C := C3) ⟨by have := hQ.1; have := hP1.1; have := hOH.1; omega, fun t ht => by have := hP1.1; have := hOH.1; rw [hQ.2 t (by omega), hP1.2 t (by omega), hOH.2 t ht]⟩
    have hJ2 : Hid2 (C3 = H ++ J) := hJ
    clear hJ
    repeat' first | (with_reducible (show W _ _ _ _ _); with_reducible refine go2 ?_) | (with_reducible (show W _ _ _ _ _); with_reducible refine sg2 ?_ ?_ <;> intro _) | (with_reducible (show W _ _ (.code (.region 19 _ true) :: _) _ _); with_reducible refine W_draw [(0, []), (1, []), (2, []), (3, []), (4, []), (5, []), (6, []), (7, []), (8, []), (9, []), (10, []), (11, []), (12, []), (13, []), (14, []), (15, []), (16, []), (17, []), (18, []), (19, []), (20, []), (21, [])] [] (by kernel_rfl) ?_)
    have m1 := hlen1 g1
    have m2 := hlen2 g2
    refine W_for (fun j ρ C4 => ∃ i : Nat, i + j = r ∧ ρ 15 = .ptr C1.length 0 ∧ ρ 18 = .slice p' 0 r r 1 ∧ ρ 21 = .slice q' 0 r r 1 ∧ ρ 129 = i64 (r : Int) ∧ ρ 130 = i64 (i : Int) ∧ C4 = C3) r ?_ ?_
    · exact ⟨0, by omega, rfl, rfl, rfl, rfl, rfl, rfl⟩
    rintro j ρ C4 ⟨i, hij, h15, h18, h21, h129, h130, rfl⟩
    by_cases hir : (i : Int) < (r : Int)
    · have hir2 : ((i : Int) < (r : Int)) = True := eq_true hir
      have et : IntKind.i64.wrap ((i : Int) + 1) = ((i + 1 : Nat) : Int) := by rw [wrap_i64 (by omega)]; omega
      have hiw : ∀ P : Nat, iaV (.slice 1 8 (some [.int .u64 0]) true) (.slice P 0 r r 1) (.lit (.int .i64 (i : Int))) = some (.ptr P i) := fun P => by
        rw [iaV_slice, if_pos ⟨by omega, by omega⟩]; simp
      have w1 : (s1.1.map u64)[i]? = some (u64 (s1.1.getD i 0)) := by rw [List.getElem?_map, List.getD_eq_getElem?_getD, List.getElem?_eq_getElem (by omega)]; rfl
      have w2 : (s2.1.map u64)[i]? = some (u64 (s2.1.getD i 0)) := by rw [List.getElem?_map, List.getD_eq_getElem?_getD, List.getElem?_eq_getElem (by omega)]; rfl
      repeat' first | (with_reducible (show W _ _ _ _ _); with_reducible refine go2 ?_) | (with_reducible (show W _ _ _ _ _); with_reducible refine sg2 ?_ ?_ <;> intro _) | (with_reducible (show W _ _ _ _ _); with_reducible refine sc2 ?_ ?_ <;> intro _) | (with_reducible (show W _ _ (.code (.region 19 _ true) :: _) _ _); with_reducible refine W_draw [(0, []), (1, []), (2, []), (3, []), (4, []), (5, []), (6, []), (7, []), (8, []), (9, []), (10, []), (11, []), (12, []), (13, []), (14, []), (15, []), (16, []), (17, []), (18, []), (19, []), (20, []), (21, [])] [] (by kernel_rfl) ?_)
      all_goals first
        | exact ⟨j - 1, by omega, i + 1, by omega, rfl⟩
        | trace_state
    · have hir2 : ((i : Int) < (r : Int)) = False := eq_false hir
      repeat' first | (with_reducible (show W _ _ _ _ _); with_reducible refine go2 ?_) | (with_reducible (show W _ _ _ _ _); with_reducible refine sg2 ?_ ?_ <;> intro _) | (with_reducible (show W _ _ _ _ _); with_reducible refine sc2 ?_ ?_ <;> intro _) | (with_reducible (show W _ _ (.code (.region 19 _ true) :: _) _ _); with_reducible refine W_draw [(0, []), (1, []), (2, []), (3, []), (4, []), (5, []), (6, []), (7, []), (8, []), (9, []), (10, []), (11, []), (12, []), (13, []), (14, []), (15, []), (16, []), (17, []), (18, []), (19, []), (20, []), (21, [])] [] (by kernel_rfl) ?_)
      all_goals first
        | exact ⟨_, hJ2⟩
        | trace_state
  all_goals trivial
end Go.Proofs.YtaojabgaebbckaaGreatDoor.M
