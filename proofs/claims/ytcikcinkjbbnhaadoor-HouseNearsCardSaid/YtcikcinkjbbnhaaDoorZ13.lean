/- house.Ref.Left against the exact reflection, column by column. -/
import Derived.Test.YtcikcinkjbbnhaaDoorZ12
import Derived.Test.YtcikcinkjbbnhaaDoorC22
set_option linter.unusedSimpArgs false
set_option linter.unusedVariables false
set_option maxRecDepth 10000
set_option maxHeartbeats 1000000
namespace Go.Proofs.YtcikcinkjbbnhaaDoor.M
open Go Go.Proofs

theorem at_set_hit {r c : Int} {D : List Int} (h : MatOk r c D) {i k : Nat} (hi : (i : Int) < r) (hk : (k : Int) < c) (b : Int) : atM r c c (setM r c c D i k b) i k = b := by
  rw [atM_in' (h.set _ _ _) hi hk, setM_in' h hi hk]
  have := place_lt h.r0 h.c0 hi hk
  rw [← h.len] at this
  simp [List.getD_eq_getElem?_getD, this]
def colT (V : List Int) (tau : Int) (x : Nat → Int) : Int := (mulM tau (sumS V x 0 V.length).1).1
def colY (V : List Int) (tau : Int) (x : Nat → Int) (i : Nat) : Int := (addM (x i) (flipM (mulM (V.getD i 0) (colT V tau x)).1)).1
theorem sumS_val (V : List Int) (x : Nat → Int) (g : Int) : ∀ n, (sumS V x g n).1 = (sumS V x 0 n).1
  | 0 => rfl
  | n + 1 => by rw [sumS_succ, sumS_succ]; dsimp only; rw [sumS_val V x g n]
/-- What a column's flags tell. -/
structure ColG (V : List Int) (tau : Int) (x : Nat → Int) : Prop where
  s : ∃ g, Gd0 (sumS V x g V.length).2
  t : Gd0 (mulM tau (sumS V x 0 V.length).1).2
  q : ∀ i, i < V.length → Gd0 (mulM (V.getD i 0) (colT V tau x)).2
  y : ∀ i, i < V.length → Gd0 (addM (x i) (flipM (mulM (V.getD i 0) (colT V tau x)).1)).2
theorem putW_all {r c : Int} {V : List Int} {mn : Nat} {D : List Int} {k : Nat} {t : Int} {S : List Int × Int} (h : MatOk r c S.1) (hr : ((mn + V.length : Nat) : Int) ≤ r) (hk : (k : Int) < c) : ∀ n, n ≤ V.length →
    MatOk r c (putW r c V (mn : Int) D k t S n).1 ∧
    (∀ i, i < n → atM r c c (putW r c V (mn : Int) D k t S n).1 ((mn + i : Nat) : Int) k = (addM (atM r c c D ((mn : Int) + (i : Nat)) k) (flipM (mulM (V.getD i 0) t).1)).1) ∧
    (∀ i' k' : Nat, (i' : Int) < r → (k' : Int) < c → (k' ≠ k ∨ i' < mn ∨ mn + V.length ≤ i') → atM r c c (putW r c V (mn : Int) D k t S n).1 i' k' = atM r c c S.1 i' k') ∧
    (Gd0 (putW r c V (mn : Int) D k t S n).2 → Gd0 S.2 ∧ ∀ i, i < n → Gd0 (mulM (V.getD i 0) t).2 ∧ Gd0 (addM (atM r c c D ((mn : Int) + (i : Nat)) k) (flipM (mulM (V.getD i 0) t).1)).2)
  | 0, _ => ⟨h, fun i hi => by omega, fun _ _ _ _ _ => rfl, fun hg => ⟨hg, fun i hi => by omega⟩⟩
  | n + 1, hn => by
    obtain ⟨i1, i2, i3, i4⟩ := putW_all (D := D) (t := t) h hr hk n (by omega)
    rw [putW_succ]
    have e : ((mn : Int) + (n : Nat)) = ((mn + n : Nat) : Int) := by omega
    have hnr : ((mn + n : Nat) : Int) < r := by omega
    refine ⟨i1.set _ _ _, fun i hi => ?_, fun i' k' hi' hk' hne => ?_, fun hg => ?_⟩
    · dsimp only
      by_cases hin : i = n
      · subst hin
        rw [e, at_set_hit i1 hnr hk]
      · rw [e, at_set_ne i1 hnr hk (by omega) hk (.inl (by omega))]
        exact i2 i (by omega)
    · dsimp only
      rw [e, at_set_ne i1 hnr hk hi' hk' (by omega)]
      exact i3 i' k' hi' hk' hne
    · obtain ⟨g1, g2⟩ := gd0_or hg
      obtain ⟨g3, g4⟩ := gd0_or g1
      obtain ⟨g5, g6⟩ := i4 g3
      refine ⟨g5, fun i hi => ?_⟩
      by_cases hin : i = n
      · subst hin; exact ⟨g4, g2⟩
      · exact g6 i (by omega)
theorem wantL_all {r c : Int} {V : List Int} {tau : Int} {mn : Nat} {D : List Int} {g : Int} (h : MatOk r c D) (hr : ((mn + V.length : Nat) : Int) ≤ r) : ∀ n : Nat, (n : Int) ≤ c →
    MatOk r c (wantL r c V tau (mn : Int) D n (D, g)).1 ∧
    (∀ k, k < n → ∀ i, i < V.length → atM r c c (wantL r c V tau (mn : Int) D n (D, g)).1 ((mn + i : Nat) : Int) k = colY V tau (fun i => atM r c c D ((mn : Int) + (i : Nat)) k) i) ∧
    (∀ i' k' : Nat, (i' : Int) < r → (k' : Int) < c → (n ≤ k' ∨ i' < mn ∨ mn + V.length ≤ i') → atM r c c (wantL r c V tau (mn : Int) D n (D, g)).1 i' k' = atM r c c D i' k') ∧
    (Gd0 (wantL r c V tau (mn : Int) D n (D, g)).2 → Gd0 g ∧ ∀ k, k < n → ColG V tau (fun i => atM r c c D ((mn : Int) + (i : Nat)) k))
  | 0, _ => ⟨h, fun i hi => by omega, fun _ _ _ _ _ => rfl, fun hg => ⟨hg, fun i hi => by omega⟩⟩
  | n + 1, hn => by
    obtain ⟨i1, i2, i3, i4⟩ := wantL_all (tau := tau) (g := g) h hr n (by omega)
    have hs : wantL r c V tau (mn : Int) D (n + 1) (D, g) = colW r c V tau (mn : Int) D n (wantL r c V tau (mn : Int) D n (D, g)) := rfl
    rw [hs]
    generalize wantL r c V tau (mn : Int) D n (D, g) = S at i1 i2 i3 i4
    unfold colW
    have ht : (mulM tau (sumS V (fun i => atM r c c D ((mn : Int) + (i : Nat)) n) S.2 V.length).1).1 = colT V tau (fun i => atM r c c D ((mn : Int) + (i : Nat)) n) := by
      unfold colT; rw [sumS_val]
    rw [ht]
    obtain ⟨p1, p2, p3, p4⟩ := putW_all (V := V) (mn := mn) (D := D) (k := n) (t := colT V tau (fun i => atM r c c D ((mn : Int) + (i : Nat)) n)) (S := (S.1, bits .or .u8 (sumS V (fun i => atM r c c D ((mn : Int) + (i : Nat)) n) S.2 V.length).2 (mulM tau (sumS V (fun i => atM r c c D ((mn : Int) + (i : Nat)) n) S.2 V.length).1).2)) i1 hr (by omega) V.length (Nat.le_refl _)
    refine ⟨p1, fun k hk i hi => ?_, fun i' k' hi' hk' hne => ?_, fun hg => ?_⟩
    · by_cases hkn : k = n
      · subst hkn; exact p2 i hi
      · rw [p3 (mn + i) k (by omega) (by omega) (.inl hkn)]
        exact i2 k (by omega) i hi
    · rw [p3 i' k' hi' hk' (by omega)]
      exact i3 i' k' hi' hk' (by omega)
    · obtain ⟨g1, g2⟩ := p4 hg
      obtain ⟨g3, g4⟩ := gd0_or g1
      have g5 : Gd0 S.2 := by
        have key : ∀ (x : Nat → Int) (q : Int) (m : Nat), Gd0 (sumS V x q m).2 → Gd0 q := by
          intro x q m
          induction m with
          | zero => exact fun h => h
          | succ m ih => exact fun h => ih (gd0_or (gd0_or (by rw [sumS_succ] at h; exact h)).1).1
        exact key _ _ _ g3
      obtain ⟨g6, g7⟩ := i4 g5
      refine ⟨g6, fun k hk => ?_⟩
      by_cases hkn : k = n
      · subst hkn
        exact ⟨⟨_, g3⟩, by rw [← sumS_val V _ S.2]; exact g4, fun i hi => (g2 i hi).1, fun i hi => (g2 i hi).2⟩
      · exact g7 k (by omega)
/-- One column, held against the exact one. -/
theorem colY_near {V : List Int} {tau : Int} {x : Nat → Int} (hV : Gn V.length V tau) (hx : ∀ i, i < V.length → Fn (x i)) (hl : V.length ≤ 1000) (hg : ColG V tau x) :
    (∀ i, i < V.length → Fn (colY V tau x i)) ∧
    Nm (fun i => val (colY V tau x i) - (val (x i) - val tau * sm (fun i => val (V.getD i 0) * val (x i)) V.length * val (V.getD i 0))) V.length (u53 + 3 * (cn V.length + 6 * u53)) (sm (fun i => val (x i) * val (x i)) V.length) := by
  obtain ⟨g, hgs⟩ := hg.s
  obtain ⟨_, s1, s2⟩ := sum_err V.length (by omega) (fun i hi => ⟨hV.fv i hi, hx i hi⟩) hgs
  rw [sumS_val] at s1 s2
  have t1 := ra_mul hV.ft s1 hg.t
  change Ra _ (colT V tau x) at t1
  have q1 := fun i hi => ra_mul (hV.fv i hi) t1.fn (hg.q i hi)
  have y1 := fun i (hi : i < V.length) => ra_sub (hx i hi) (q1 i hi).fn (hg.y i hi)
  have c1 := cn_small (n := V.length) (by omega)
  refine ⟨fun i hi => (y1 i hi).fn, ?_⟩
  exact col_err (q := fun i => val (mulM (V.getD i 0) (colT V tau x)).1) (Rat.le_of_lt hV.pos) s2 t1.er (fun i hi => (q1 i hi).er) (fun i hi => (y1 i hi).er) c1.1 (by grind) (show ((V.length + 11 : Nat) : Int) ≤ 100000 by omega) hV.near
/-- What house.Ref.Left answers with quiet flags, column by column. -/
theorem left_near {r c : Int} {V : List Int} {tau : Int} {mn : Nat} {D : List Int} {g : Int} (h : MatOk r c D) (hr : ((mn + V.length : Nat) : Int) ≤ r) (hfin : ∀ i k : Nat, (i : Int) < r → (k : Int) < c → Fn (atM r c c D i k)) (hV : Gn V.length V tau) (hti : InU tau) (hl : V.length ≤ 1000) (hg : Gd0 (leftR r c V tau (mn : Int) (D, g)).2) (k : Nat) (hk : (k : Int) < c) :
    (∀ i, i < V.length → Fn (atM r c c (leftR r c V tau (mn : Int) (D, g)).1 ((mn + i : Nat) : Int) k)) ∧
    Nm (fun i => val (atM r c c (leftR r c V tau (mn : Int) (D, g)).1 ((mn + i : Nat) : Int) k) - (val (atM r c c D ((mn + i : Nat) : Int) k) - val tau * sm (fun i => val (V.getD i 0) * val (atM r c c D ((mn + i : Nat) : Int) k)) V.length * val (V.getD i 0))) V.length (u53 + 3 * (cn V.length + 6 * u53)) (sm (fun i => val (atM r c c D ((mn + i : Nat) : Int) k) * val (atM r c c D ((mn + i : Nat) : Int) k)) V.length) := by
  have hk1 : kindM tau ≠ 1 := fun e => by
    have hp := hV.pos
    have h0 : val tau = 0 := (val_zero hti hV.ft.fin).2 e
    rw [h0] at hp
    exact absurd hp (by decide)
  have hc0 := h.c0
  have e1 : leftR r c V tau (mn : Int) (D, g) = wantL r c V tau (mn : Int) D c.toNat (D, g) := by
    unfold leftR
    rw [if_neg hk1]
    exact left_want (by omega) h
  rw [e1] at hg ⊢
  obtain ⟨_, w2, _, w4⟩ := wantL_all (tau := tau) (g := g) h hr c.toNat (by omega)
  have hcol := (w4 hg).2 k (by omega)
  have hx : ∀ i, i < V.length → Fn (atM r c c D ((mn : Int) + (i : Nat)) k) := fun i hi => by
    have e : ((mn : Int) + (i : Nat)) = ((mn + i : Nat) : Int) := by omega
    rw [e]; exact hfin (mn + i) k (by omega) hk
  obtain ⟨y1, y2⟩ := colY_near hV hx hl hcol
  refine ⟨fun i hi => by rw [w2 k (by omega) i hi]; exact y1 i hi, ?_⟩
  have e : ∀ i : Nat, ((mn + i : Nat) : Int) = (mn : Int) + (i : Nat) := fun i => by omega
  simp only [e]
  refine y2.congr fun i hi => ?_
  have := w2 k (by omega) i hi
  rw [e] at this
  rw [this]
def colQ (r c : Int) (D : List Int) (k n : Nat) : List Rat := (List.range n).map fun i : Nat => vx (atM r c c D (i : Int) (k : Int))
theorem colQ_len (r c : Int) (D : List Int) (k n : Nat) : (colQ r c D k n).length = n := by simp [colQ]
theorem colQ_succ (r c : Int) (D : List Int) (k n : Nat) : colQ r c D k (n + 1) = colQ r c D k n ++ [vx (atM r c c D (n : Int) k)] := by simp [colQ, List.range_succ]
theorem nears_law {n : Nat} {c : Int} {V : List Int} {tau : Int} {D : List Int} (h : MatOk (n : Int) c D) (hVl : V.length = n) (hn : n ≤ 1000) (hfin : ∀ i k : Nat, (i : Int) < (n : Int) → (k : Int) < c → Fn (atM (n : Int) c c D i k)) (hti : InU tau) (hlaw : Gn n V tau ∨ tau = 0) (hg : Gd0 (leftR (n : Int) c V tau 0 (D, 0)).2) (k : Nat) (hk : (k : Int) < c) :
    nearR (colQ (n : Int) c (leftR (n : Int) c V tau 0 (D, 0)).1 k n) (turnR V tau (colQ (n : Int) c D k n) n) (64 * ((n : Int) + 8) * ((n : Int) + 8)) (dotR (colQ (n : Int) c D k n) (colQ (n : Int) c D k n) n) := by
  obtain ⟨x, hxe⟩ : ∃ x : Nat → Rat, (fun i : Nat => val (atM (n : Int) c c D (i : Int) k)) = x := ⟨_, rfl⟩
  have hx : ∀ i, i < n → (colQ (n : Int) c D k n).getD i 0 = x i := fun i hi => by
    unfold colQ; rw [getD_map_range _ hi, ← hxe]; exact vx_fn (hfin i k (by omega) hk)
  have hX := dotR_eq hx hx
  have hX0 : 0 ≤ sm (fun i => x i * x i) n := sm_sq_nn _ _
  have key : ∃ d : Nat → Rat, (∀ i, i < n → (colQ (n : Int) c (leftR (n : Int) c V tau 0 (D, 0)).1 k n).getD i 0 - (turnR V tau (colQ (n : Int) c D k n) n).getD i 0 = d i) ∧ Nm d n (((64 * ((n : Int) + 8) * ((n : Int) + 8) : Int) : Rat) * u53) (sm (fun i => x i * x i) n) := by
    have hU0 : 0 ≤ ((64 * ((n : Int) + 8) * ((n : Int) + 8) : Int) : Rat) * u53 := mulnn (ile (a := 0) (Int.mul_nonneg (by omega) (by omega))) (Rat.le_of_lt u53_pos)
    rcases hlaw with hV | ht
    · obtain ⟨l1, l2⟩ := left_near (mn := 0) (g := 0) h (by omega) hfin (by rw [hVl]; exact hV) hti (by omega) hg k hk
      simp only [Nat.zero_add, show ((0 : Nat) : Int) = 0 from rfl] at l1 l2
      rw [hVl] at l1 l2
      have hvm : ∀ i, i < n → (V.map vx).getD i 0 = val (V.getD i 0) := fun i hi => by rw [map_vx_get (by omega)]; exact vx_fn (hV.fv i hi)
      refine ⟨_, fun i hi => ?_, (show Nm _ n _ _ from by rw [← hxe]; exact l2).mono ?_ hX0⟩
      · unfold turnR
        rw [getD_map_range _ hi, hx i hi, vx_fn hV.ft, hVl, dotR_eq hvm hx, vx_fn (hV.fv i hi)]
        unfold colQ
        rw [getD_map_range _ hi, vx_fn (l1 i hi), ← hxe]
      · unfold cn
        have e2 : ((64 * ((n : Int) + 8) * ((n : Int) + 8) : Int) : Rat) = 64 * (((n : Int) : Rat) + 8) * (((n : Int) : Rat) + 8) := by push_cast; rfl
        rw [e2]
        have h0 := nat_nn n
        have h1 := mulnn h0 h0
        have h2 : u53 + 3 * ((2 * ((n : Int) : Rat) + 3) * u53 + 6 * u53) = (6 * ((n : Int) : Rat) + 28) * u53 := by grind
        rw [h2]
        refine mulr ?_ (Rat.le_of_lt u53_pos)
        grind
    · refine ⟨fun _ => 0, fun i hi => ?_, hU0, ?_⟩
      · have hk1 : kindM tau = 1 := by rw [ht]; decide
        unfold leftR
        rw [if_pos hk1]
        unfold turnR
        rw [getD_map_range _ hi, ht, show vx 0 = 0 from (vx_fn Fn.zero).trans val_z]
        grind
      · rw [sm_congr (g := fun _ => 0) n (fun i _ => by grind), sm_zero]
        exact mulnn (mulnn hU0 hU0) hX0
  obtain ⟨d, hd, hN⟩ := key
  have hdd : ∀ i, i < n → (difR (colQ (n : Int) c (leftR (n : Int) c V tau 0 (D, 0)).1 k n) (turnR V tau (colQ (n : Int) c D k n) n) n).getD i 0 = d i := fun i hi => by
    unfold difR
    rw [getD_map_range _ hi, hd i hi]
  unfold nearR
  rw [colQ_len, dotR_eq hdd hdd, hX]
  refine Rat.le_trans hN.le (reqle ?_)
  show _ = _ * (((64 * ((n : Int) + 8) * ((n : Int) + 8) : Int) : Rat) * u53) * (((64 * ((n : Int) + 8) * ((n : Int) + 8) : Int) : Rat) * u53)
  grind
end Go.Proofs.YtcikcinkjbbnhaaDoor.M
