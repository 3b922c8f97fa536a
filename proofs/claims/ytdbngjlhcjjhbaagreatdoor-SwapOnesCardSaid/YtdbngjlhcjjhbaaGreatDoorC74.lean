/- swap.before and Select: numbers of the diagonal of a triangle that are wished in front. -/
import Derived.Test.YtdbngjlhcjjhbaaGreatDoorC72
import Derived.Test.YtdbngjlhcjjhbaaGreatDoorJ2
set_option linter.unusedSimpArgs false
set_option linter.unusedVariables false
set_option pp.deepTerms false
set_option pp.maxSteps 1500
set_option maxRecDepth 10000
set_option maxHeartbeats 4000000
namespace Go.Proofs.YtdbngjlhcjjhbaaGreatDoor.M
open Go Go.Proofs

theorem SlB.ia {H : MH} {v : MV} {xs : List Bool} (h : SlB H v xs) {j : Nat} (hj : j < xs.length) (e : Nat) (z : Option (List Value)) (b : Bool) (k : IntKind) : iaV (.slice 1 e z b) v (.lit (.int k j)) = some (ixq v j) := by
  rcases h with ⟨rfl, a, rfl⟩ | ⟨p, o, c, ob, rfl, hp, hcell⟩
  · simp at hj
  · rw [iaV_slice, if_pos ⟨by omega, by omega⟩]
    simp [ixq]
theorem SlB.ld {P : Program} {t : TypeId} (hk : (ty P t).known = true) (ha : (ty P t).agg = false) {H : MH} {v : MV} {xs : List Bool} (h : SlB H v xs) {j : Nat} (hj : j < xs.length) : loadV P t (ixq v j) H = some (bl (xs.getD j false)) := by
  rcases h with ⟨rfl, a, rfl⟩ | ⟨p, o, c, ob, rfl, hp, hcell⟩
  · simp at hj
  · simp only [ixq, loadV, hk, ha, if_true, Bool.false_eq_true, if_false, hp, Option.bind_some, Nat.mul_one]
    exact hcell j hj
theorem lenB {H : MH} {v : MV} {xs : List Bool} (hv : SlB H v xs) : lenV Tryz.prog 35 v = some (i64 (xs.length : Int)) := by
  rcases hv with ⟨rfl, a, rfl⟩ | ⟨p, o, c, ob, rfl, _, _⟩ <;> simp [lenV, ty_35]
theorem Old.slB {H C : MH} (h : Old H C) {v : MV} {xs : List Bool} (hv : SlB H v xs) : SlB C v xs := by
  rcases hv with ⟨h1, a, h2⟩ | ⟨p, o, c, ob, h1, h2, h3⟩
  · exact .inl ⟨h1, a, h2⟩
  · exact .inr ⟨p, o, c, ob, h1, h.get h2, h3⟩
theorem before_spec {n : Int} {p z : Nat} {D : List Int} (h : MatOk n n D) (hT : Tri n D) {N : Nat} (hN : D.length = N) {H : MH} {rw : Bool} (hp : hget H p = some ⟨D.map u64, rw⟩) {a : Nat} (ha : ((a + 1 : Nat) : Int) < n) :
    Spec Tryz.prog 28 [mx n n n p N z, i64 ((a + 1 : Nat) : Int)] H fun v H' => v = i64 (a : Int) ∧ H' = H := by
  have hr1 := h.r1
  have e1 : IntKind.i64.wrap (((a + 1 : Nat) : Int) - 1) = (a : Int) := by rw [wrap_i64 (by omega)]; omega
  have e2 : (2 : Int) ≤ ((a + 1 : Nat) : Int) → IntKind.i64.wrap (((a + 1 : Nat) : Int) - 2) = ((a - 1 : Nat) : Int) := fun h => by rw [wrap_i64 (by omega)]; omega
  have z1 : (2 : Int) ≤ ((a + 1 : Nat) : Int) → kindM (atM n n n D (a : Int) ((a - 1 : Nat) : Int)) = 1 := fun h => hT a (a - 1) (by omega) (by omega)
  refine Spec.scalar (enterS Tryz.func28 [.tmp 4] ?_)
  repeat' first | (with_reducible (show W _ _ _ _ _); with_reducible refine go2 ?_) | (with_reducible (show W _ _ _ _ _); with_reducible refine sg2 ?_ ?_ <;> intro _) | (with_reducible (show W _ _ _ _ _); with_reducible refine sc2 ?_ ?_ <;> intro _) | (with_reducible (show CallK _ _ _ _ _ _ _ _ _ _ _); with_reducible refine ce2 (at_ok h _ _ (hget_appL hp) hN) ?_) | (with_reducible (show CallK _ _ _ _ _ _ _ _ _ _ _); with_reducible refine ce2 (kind_spec _ _) ?_)
  all_goals first
    | trivial
    | (exfalso; simp_all)
/-- Each row a block. -/
theorem tri_blkE {n : Int} {D : List Int} (hT : Tri n D) : ∀ (f i : Nat), n ≤ (i : Int) + f → (i : Int) ≤ n → blk n D f i = some (List.range' i (n.toNat - i))
  | 0, i, h, h' => by
    have : n.toNat - i = 0 := by omega
    rw [this]; rfl
  | f + 1, i, h, h' => by
    by_cases hi : (i : Int) < n
    · have hs : stB n D i = true := by
        unfold stB
        by_cases e : ((i + 1 : Nat) : Int) = n
        · simp [e]
        · have := hT (i + 1) i (by omega) (by omega)
          simp only [this, decide_true, Bool.or_true]
      have h1 := tri_blkE hT f (i + 1) (by omega) (by omega)
      have e : n.toNat - i = (n.toNat - (i + 1)) + 1 := by omega
      rw [blk_st hi hs, h1, e, List.range'_succ]
      rfl
    · have e : n.toNat - i = 0 := by omega
      rw [blk_end hi, e]
      rfl
theorem tri_blocksE {r : Nat} {D : List Int} (hT : Tri (r : Int) D) : blocksM (r : Int) D = some (List.range r) := by
  have h1 := tri_blkE hT r 0 (by omega) (by omega)
  unfold blocksM
  rw [if_pos]
  · rw [Int.toNat_natCast] at h1 ⊢
    rw [List.range_eq_range']
    simpa using h1
  · exact bo_t fun i k hi hk hik => hT i k hi (by omega)

/-! ### What is done, as functions -/
/-- A number goes m places ahead, to one. -/
def mvS (n : Int) (f : Nat) : Nat → List Int × List Int → List Int × List Int
  | 0, s => s
  | m + 1, s => mvS n f m (onesD n s.1 (f + m), onesE n s.1 s.2 (f + m))
/-- The rows up to one. -/
def slS (n : Int) (ws : List Bool) (D E : List Int) : Nat → (List Int × List Int) × Nat
  | 0 => ((D, E), 0)
  | k + 1 => if ws.getD k false = true then (mvS n (slS n ws D E k).2 (k - (slS n ws D E k).2) (slS n ws D E k).1, (slS n ws D E k).2 + 1) else slS n ws D E k
/-- A triangle that has changed some times. -/
def Gq (n : Int) (D : List Int) (c : Nat) : Prop := ∃ k0 : Int, 0 ≤ k0 ∧ k0 ≤ 101 + 28 * (c : Int) ∧ Tg n D k0
theorem Gq.mono {n : Int} {D : List Int} {c c' : Nat} (h : Gq n D c) (hc : c ≤ c') : Gq n D c' := by
  obtain ⟨k0, h1, h2, h3⟩ := h
  exact ⟨k0, h1, by omega, h3⟩
theorem Gq.ones {n : Int} {D : List Int} {c : Nat} (h : Gq n D c) (hc : c ≤ 26) (hn : n ≤ 7) {a : Nat} (ha : ((a + 1 : Nat) : Int) < n) : Gq n (onesD n D a) (c + 1) ∧ OneFin n D a := by
  obtain ⟨k0, h1, h2, h3⟩ := h
  exact ⟨⟨k0 + 4 * n.toNat, by omega, by omega, (ones_val h3 ha (by omega)).1⟩, (h3.one (by omega) ha).1⟩
def trs : Nat → Nat
  | 0 => 0
  | i + 1 => trs i + i
theorem trs_le {i : Nat} (h : i ≤ 7) : trs i ≤ 21 := by
  have : ∀ i : Fin 8, trs i.1 ≤ 21 := by decide
  exact this ⟨i, by omega⟩
theorem mv_gd {n : Int} (hn : n ≤ 7) (f : Nat) : ∀ (m : Nat) (s : List Int × List Int) (c : Nat), Gq n s.1 c → MatOk n n s.2 → c + m ≤ 26 → ((f + m : Nat) : Int) < n → Gq n (mvS n f m s).1 (c + m) ∧ MatOk n n (mvS n f m s).2
  | 0, s, c, h, hE, _, _ => ⟨h, hE⟩
  | m + 1, s, c, h, hE, hc, hf => by
    have h1 := (h.ones (by omega) hn (a := f + m) (by omega)).1
    have := mv_gd hn f m (onesD n s.1 (f + m), onesE n s.1 s.2 (f + m)) (c + 1) h1 (cols_ok hE _ _ _ _) (by omega) (by omega)
    rw [show c + (m + 1) = c + 1 + m by omega]
    exact this
theorem sl_gd {n : Int} (hn : n ≤ 7) {ws : List Bool} {D E : List Int} (h : Gq n D 0) (hE : MatOk n n E) : ∀ k : Nat, (k : Int) ≤ n → (Gq n (slS n ws D E k).1.1 (trs k) ∧ MatOk n n (slS n ws D E k).1.2) ∧ (slS n ws D E k).2 ≤ k
  | 0, _ => ⟨⟨h, hE⟩, Nat.le_refl _⟩
  | k + 1, hk => by
    obtain ⟨⟨h1, h2⟩, h3⟩ := sl_gd hn (ws := ws) h hE k (by omega)
    have ht : trs k + k ≤ 21 := trs_le (i := k + 1) (by omega)
    unfold slS
    split
    · have := mv_gd hn (slS n ws D E k).2 (k - (slS n ws D E k).2) _ (trs k) h1 h2 (by omega) (by omega)
      refine ⟨⟨this.1.mono ?_, this.2⟩, by simp only; omega⟩
      show _ ≤ trs k + k
      omega
    · exact ⟨⟨h1.mono (by show _ ≤ trs k + k; omega), h2⟩, by omega⟩
theorem sel_ones {r : Nat} (hr7 : r ≤ 7) {p z : Nat} {D : List Int} (hD : Tg (r : Int) D 101) {N : Nat} (hN : ((r : Int) * r).toNat = N) {H : MH} {rw : Bool} (hp : hget H p = some ⟨D.map u64, rw⟩)
    {q y : Nat} {E : List Int} {rw' : Bool} (hE : MatOk r r E) (hq : hget H q = some ⟨E.map u64, rw'⟩) (hfE : finD E = true) (hB : Bd D E) {w : MV} {ws : List Bool} (hw : SlB H w ws) (hW : ws.length = r) :
    Spec Tryz.prog 12 [mx r r r p N z, mx r r r q N y, w] H fun u H' => u = .tup [mx r r r H.length N N, mx r r r (H.length + 1) N N, i64 ((slS r ws D E r).2 : Int), i64 0] ∧ H' = H ++ [some ⟨(slS r ws D E r).1.1.map u64, true⟩, some ⟨(slS r ws D E r).1.2.map u64, true⟩] := by
  have hDl : D.length = N := hD.ok.len.trans hN
  have hEl : E.length = N := hE.len.trans hN
  have hb := tri_blocksE hD.tri
  have hf := fun L' => fits_ok hD.ok (by omega) hDl (z := z) (hget_appL (L := L') hp) hb hD.all.fin hE (by omega) hEl (y := y) (hget_appL (L := L') hq) hfE hB
  have hlw := lenB hw
  rw [hW] at hlw
  refine Spec.twoX (v := fun p p' => .tup [mx r r r p N N, mx r r r p' N N, i64 ((slS r ws D E r).2 : Int), i64 0]) (closed_u64 _) (closed_u64 _) (fun p p' => by simp [Cl, Cls']) (fun π p p' _ _ => by simp [ren, rens]) ?_
  refine enterS Tryz.func12 [.cell 6 25, .cell 7 25, .tmp 8, .tmp 9] ?_
  repeat' first | (with_reducible (show W _ _ _ _ _); with_reducible refine go2 ?_) | (with_reducible (show W _ _ _ _ _); with_reducible refine sg2 ?_ ?_ <;> intro _) | (with_reducible (show W _ _ (.code (.region 6 _ true) :: _) _ _); with_reducible refine W_draw [(0, []), (2, []), (1, [2]), (3, []), (4, []), (5, [])] [2] (by kernel_rfl) ?_) | (with_reducible (show W _ _ (.code (.region 20 _ true) :: _) _ _); with_reducible refine W_draw [(0, []), (1, []), (2, []), (3, []), (4, [1]), (5, []), (6, []), (7, [])] [1] (by kernel_rfl) ?_) | (with_reducible (show W _ _ (.code (.region 21 _ true) :: _) _ _); with_reducible refine W_draw [(0, []), (1, []), (2, []), (3, []), (4, [2]), (5, [])] [2] (by kernel_rfl) ?_) | (with_reducible (show W _ _ (.code (.region 24 _ true) :: _) _ _); with_reducible refine W_draw [(0, []), (1, []), (2, []), (3, [1]), (4, []), (5, []), (6, [])] [1] (by kernel_rfl) ?_) | ((with_reducible (show CallK _ _ _ _ _ _ _ _ _ _ _); with_reducible refine cx2 (hf _) ?_; rintro u' H' ⟨v, J, rfl, rfl, hv⟩))
  refine CallK_memQ (fun C => Old H C ∧ hget C H.length = some ⟨[i64 r, i64 r, i64 r, .slice p 0 N z 1], true⟩ ∧ hget C (H.length + 1) = some ⟨[i64 r, i64 r, i64 r, .slice q 0 N y 1], true⟩ ∧ hget C (H.length + 2) = some ⟨[i64 0, i64 0, i64 0, nils], true⟩ ∧ hget C (H.length + 3) = some ⟨[i64 0, i64 0, i64 0, nils], true⟩ ∧ ∃ B : MH, B.length = H.length + 4 ∧ Ls B C 1 (ints (List.range r)) (List.range r).length v) ⟨?_, ?_, ?_, ?_, ?_, _, ?_, (by have := hv; rw [List.append_assoc] at this; exact this)⟩ ?_
  · exact (Old.refl H).app _
  · exact hget_new'
  · exact hget_new
  · exact hget_new
  · exact hget_new
  · simp
  clear hv
  rintro C ⟨hO, hb1, hb2, hb3, hb4, B, hBl, hv⟩
  clear hf
  rw [List.length_range] at hv
  have g4 := lt_of_hget hb4
  have q1 : H.length < C.length := by omega
  have q2 : H.length + 1 < C.length := by omega
  have hbL2 : ∀ L', hget (C ++ L') (H.length + 1) = _ := fun L' => hget_appL hb2
  have hs1 : ∀ x, hget (C.set H.length x) (H.length + 1) = some ⟨[i64 r, i64 r, i64 r, .slice q 0 N y 1], true⟩ := fun x => (hget_set_ne (by omega) _).trans hb2
  have hlv : lenV Tryz.prog 48 v = some (i64 (r : Int)) := hv.len (by rw [ty_48])
  repeat' first | (with_reducible (show W _ _ _ _ _); with_reducible refine go2 ?_) | (with_reducible (show W _ _ _ _ _); with_reducible refine sg2 ?_ ?_ <;> intro _) | (with_reducible (show W _ _ (.code (.region 6 _ true) :: _) _ _); with_reducible refine W_draw [(0, []), (2, []), (1, [2]), (3, []), (4, []), (5, [])] [2] (by kernel_rfl) ?_) | (with_reducible (show W _ _ (.code (.region 20 _ true) :: _) _ _); with_reducible refine W_draw [(0, []), (1, []), (2, []), (3, []), (4, [1]), (5, []), (6, []), (7, [])] [1] (by kernel_rfl) ?_) | (with_reducible (show W _ _ (.code (.region 21 _ true) :: _) _ _); with_reducible refine W_draw [(0, []), (1, []), (2, []), (3, []), (4, [2]), (5, [])] [2] (by kernel_rfl) ?_) | (with_reducible (show W _ _ (.code (.region 24 _ true) :: _) _ _); with_reducible refine W_draw [(0, []), (1, []), (2, []), (3, [1]), (4, []), (5, []), (6, [])] [1] (by kernel_rfl) ?_) | ((with_reducible (show CallK _ _ _ _ _ _ _ _ _ _ _); first | (with_reducible refine cm2 (clone_spec hD.ok hDl (hO.get hp)) ?_) | (with_reducible refine cm2 (clone_spec hE hEl (hget_appL (hO.get hq))) ?_)))
  refine W_memQ (fun C2 => Old H C2 ∧ hget C2 (H.length + 2) = some ⟨[i64 0, i64 0, i64 0, nils], true⟩ ∧ hget C2 (H.length + 3) = some ⟨[i64 0, i64 0, i64 0, nils], true⟩ ∧ Ls B C2 1 (ints (List.range r)) r v ∧ ∃ p q : Nat, hget C2 H.length = some ⟨[i64 r, i64 r, i64 r, .slice p 0 N N 1], true⟩ ∧ hget C2 (H.length + 1) = some ⟨[i64 r, i64 r, i64 r, .slice q 0 N N 1], true⟩ ∧ H.length + 4 ≤ p ∧ H.length + 4 ≤ q ∧ p ≠ q ∧ hget C2 p = some ⟨D.map u64, true⟩ ∧ hget C2 q = some ⟨E.map u64, true⟩) ?_ ?_
  · have hO2 : Old H ((C.set H.length (some ⟨[i64 r, i64 r, i64 r, .slice C.length 0 N N 1], true⟩)).set (H.length + 1) (some ⟨[i64 r, i64 r, i64 r, .slice (C.length + 1) 0 N N 1], true⟩)) := (hO.setq _ (by omega)).setq _ (by omega)
    have hl : ((C.set H.length (some ⟨[i64 r, i64 r, i64 r, .slice C.length 0 N N 1], true⟩)).set (H.length + 1) (some ⟨[i64 r, i64 r, i64 r, .slice (C.length + 1) 0 N N 1], true⟩)).length = C.length := by rw [List.length_set, List.length_set]
    exact ⟨hO2.app _, hget_appL ((hget_set_ne (by omega) _).trans ((hget_set_ne (by omega) _).trans hb3)), hget_appL ((hget_set_ne (by omega) _).trans ((hget_set_ne (by omega) _).trans hb4)), ((hv.set_lt (by omega) _).set_lt (by omega) _).app _, C.length, C.length + 1, hget_appL ((hget_set_ne (by omega) _).trans (hget_set_same (by omega) _)), hget_appL (hget_set_same (by rw [List.length_set]; omega) _), by omega, by omega, by omega, hget_newL' hl, hget_newL hl⟩
  clear hb1 hb2 hb3 hb4 hv g4 q1 q2 hbL2 hs1 hO
  have hG : Gq (r : Int) D 0 := ⟨101, by omega, by omega, hD⟩
  have hS := sl_gd (n := (r : Int)) (by omega) (ws := ws) hG hE
  rintro C2 hC2
  refine W_for (fun j ρ C3 => ∃ k : Nat, k + j = r ∧ ρ 2 = w ∧ ρ 3 = .ptr H.length 0 ∧ ρ 4 = .ptr (H.length + 1) 0 ∧ ρ 6 = .ptr (H.length + 2) 0 ∧ ρ 7 = .ptr (H.length + 3) 0 ∧ ρ 10 = v ∧ ρ 12 = i64 ((slS r ws D E k).2 : Int) ∧ ρ 43 = v ∧ ρ 44 = i64 (r : Int) ∧ ρ 45 = i64 (k : Int) ∧ 
    (Old H C3 ∧ hget C3 (H.length + 2) = some ⟨[i64 0, i64 0, i64 0, nils], true⟩ ∧ hget C3 (H.length + 3) = some ⟨[i64 0, i64 0, i64 0, nils], true⟩ ∧ Ls B C3 1 (ints (List.range r)) r v ∧ ∃ p q : Nat, hget C3 H.length = some ⟨[i64 r, i64 r, i64 r, .slice p 0 N N 1], true⟩ ∧ hget C3 (H.length + 1) = some ⟨[i64 r, i64 r, i64 r, .slice q 0 N N 1], true⟩ ∧ H.length + 4 ≤ p ∧ H.length + 4 ≤ q ∧ p ≠ q ∧ hget C3 p = some ⟨(slS r ws D E k).1.1.map u64, true⟩ ∧ hget C3 q = some ⟨(slS r ws D E k).1.2.map u64, true⟩)) r ?_ ?_
  · exact ⟨0, by omega, rfl, rfl, rfl, rfl, rfl, rfl, rfl, rfl, rfl, rfl, hC2⟩
  clear hC2 C2
  rintro j ρ C3 ⟨k, hk, h2, h3, h4, h6, h7, h10, h12, h43, h44, h45, hO2, hc3, hc4, hv2, p2, q2, hc1, hc2, hp4, hq4, hpq, hd1, hd2⟩
  obtain ⟨⟨gd, gE⟩, gf⟩ := hS k (by omega)
  have g1 := lt_of_hget hc1
  have g2 := lt_of_hget hc2
  have g3 := lt_of_hget hc3
  have g4 := lt_of_hget hc4
  obtain ⟨f, hfe⟩ : ∃ f, (slS r ws D E k).2 = f := ⟨_, rfl⟩
  rw [hfe] at h12 gf
  have hstep : Hid2 (slS r ws D E (k + 1) = if ws.getD k false = true then (mvS r f (k - f) (slS r ws D E k).1, f + 1) else slS r ws D E k) := by rw [← hfe]; rfl
  by_cases hkl : k < r
  · have htr : trs k + k ≤ 21 := trs_le (i := k + 1) (by omega)
    have hia := hv2.ia hkl 8 (some [.int .i64 0]) true .i64
    have hld := hv2.ld (P := Tryz.prog) (t := 3) (by rw [ty_3]) (by rw [ty_3]) hkl (x := i64 (k : Int)) (by simp [ints, hkl])
    have hwC := hO2.slB hw
    have hib := hwC.ia (j := k) (by omega) 1 (some [.bool false]) false .i64
    have hlb := hwC.ld (P := Tryz.prog) (t := 4) (by rw [ty_4]) (by rw [ty_4]) (j := k) (by omega)
    have hkl2 : ((k : Int) < (r : Int)) = True := eq_true (by omega)
    have ek : IntKind.i64.wrap ((k : Int) + 1) = ((k + 1 : Nat) : Int) := by rw [wrap_i64 (by omega)]; omega
    have hn1 : IntKind.i64.wrap (((k + 1 : Nat) : Int) - k) = 1 := by rw [wrap_i64 (by omega)]; omega
    have hone : (k + 1 = r) → IntKind.i64.wrap ((r : Int) - k) = 1 := fun e => by rw [wrap_i64 (by omega)]; omega
    have hnext : ∃ b : Prop, (((k + 1 : Nat) : Int) < (r : Int)) = b := ⟨_, rfl⟩
    cases hWk : ws.getD k false with
    | false =>
      rw [hWk] at hlb hstep
      have hst : slS r ws D E (k + 1) = slS r ws D E k := hstep
      clear hstep hWk
      by_cases hk1 : k + 1 < r
      · have hia1 := hv2.ia hk1 8 (some [.int .i64 0]) true .i64
        have hld1 := hv2.ld (P := Tryz.prog) (t := 3) (by rw [ty_3]) (by rw [ty_3]) hk1 (x := i64 ((k + 1 : Nat) : Int)) (by simp [ints, hk1])
        have hk12 : (((k + 1 : Nat) : Int) < (r : Int)) = True := eq_true (by omega)
        have hst2 : Hid2 (slS r ws D E (k + 1) = slS r ws D E k) := hst
        clear hst
        repeat' first | (with_reducible (show W _ _ _ _ _); with_reducible refine go2 ?_) | (with_reducible (show W _ _ _ _ _); with_reducible refine sg2 ?_ ?_ <;> intro _) | (with_reducible (show W _ _ _ _ _); with_reducible refine sc2 ?_ ?_ <;> intro _) | (with_reducible (show W _ _ (.code (.region 6 _ true) :: _) _ _); with_reducible refine W_draw [(0, []), (2, []), (1, [2]), (3, []), (4, []), (5, [])] [2] (by kernel_rfl) ?_) | (with_reducible (show W _ _ (.code (.region 20 _ true) :: _) _ _); with_reducible refine W_draw [(0, []), (1, []), (2, []), (3, []), (4, [1]), (5, []), (6, []), (7, [])] [1] (by kernel_rfl) ?_) | (with_reducible (show W _ _ (.code (.region 21 _ true) :: _) _ _); with_reducible refine W_draw [(0, []), (1, []), (2, []), (3, []), (4, [2]), (5, [])] [2] (by kernel_rfl) ?_) | (with_reducible (show W _ _ (.code (.region 24 _ true) :: _) _ _); with_reducible refine W_draw [(0, []), (1, []), (2, []), (3, [1]), (4, []), (5, []), (6, [])] [1] (by kernel_rfl) ?_)
        all_goals exact ⟨j - 1, by omega, k + 1, by omega, by rw [show slS r ws D E (k + 1) = _ from hst2, hfe], rfl, p2, q2, rfl, rfl, hp4, hq4, hpq, by rw [show slS r ws D E (k + 1) = _ from hst2]; exact hd1, by rw [show slS r ws D E (k + 1) = _ from hst2]; exact hd2⟩
      · have hk12 : (((k + 1 : Nat) : Int) < (r : Int)) = False := eq_false (by omega)
        have hone' := hone (by omega)
        have hst2 : Hid2 (slS r ws D E (k + 1) = slS r ws D E k) := hst
        clear hst
        repeat' first | (with_reducible (show W _ _ _ _ _); with_reducible refine go2 ?_) | (with_reducible (show W _ _ _ _ _); with_reducible refine sg2 ?_ ?_ <;> intro _) | (with_reducible (show W _ _ _ _ _); with_reducible refine sc2 ?_ ?_ <;> intro _) | (with_reducible (show W _ _ (.code (.region 6 _ true) :: _) _ _); with_reducible refine W_draw [(0, []), (2, []), (1, [2]), (3, []), (4, []), (5, [])] [2] (by kernel_rfl) ?_) | (with_reducible (show W _ _ (.code (.region 20 _ true) :: _) _ _); with_reducible refine W_draw [(0, []), (1, []), (2, []), (3, []), (4, [1]), (5, []), (6, []), (7, [])] [1] (by kernel_rfl) ?_) | (with_reducible (show W _ _ (.code (.region 21 _ true) :: _) _ _); with_reducible refine W_draw [(0, []), (1, []), (2, []), (3, []), (4, [2]), (5, [])] [2] (by kernel_rfl) ?_) | (with_reducible (show W _ _ (.code (.region 24 _ true) :: _) _ _); with_reducible refine W_draw [(0, []), (1, []), (2, []), (3, [1]), (4, []), (5, []), (6, [])] [1] (by kernel_rfl) ?_)
        all_goals exact ⟨j - 1, by omega, k + 1, by omega, by rw [show slS r ws D E (k + 1) = _ from hst2, hfe], rfl, p2, q2, rfl, rfl, hp4, hq4, hpq, by rw [show slS r ws D E (k + 1) = _ from hst2]; exact hd1, by rw [show slS r ws D E (k + 1) = _ from hst2]; exact hd2⟩
    | true =>
      rw [hWk] at hlb hstep
      have hst : slS r ws D E (k + 1) = (mvS r f (k - f) (slS r ws D E k).1, f + 1) := hstep
      clear hstep hWk
      have hst2 : Hid2 (slS r ws D E (k + 1) = (mvS r f (k - f) (slS r ws D E k).1, f + 1)) := hst
      clear hst
      have hin : ∀ (ρ : Env), ρ 2 = w ∧ ρ 3 = .ptr H.length 0 ∧ ρ 4 = .ptr (H.length + 1) 0 ∧ ρ 6 = .ptr (H.length + 2) 0 ∧ ρ 7 = .ptr (H.length + 3) 0 ∧ ρ 10 = v ∧ ρ 12 = i64 (f : Int) ∧ ρ 14 = i64 (k : Int) ∧ ρ 15 = i64 1 ∧ ρ 43 = v ∧ ρ 44 = i64 (r : Int) ∧ ρ 45 = i64 (k : Int) → True := fun _ _ => trivial
      obtain ⟨s0, hs0⟩ : ∃ s0, (slS r ws D E k).1 = s0 := ⟨_, rfl⟩
      rw [hs0] at hst2 hd1 hd2 gd gE
      by_cases hk1 : k + 1 < r
      · have hia1 := hv2.ia hk1 8 (some [.int .i64 0]) true .i64
        have hld1 := hv2.ld (P := Tryz.prog) (t := 3) (by rw [ty_3]) (by rw [ty_3]) hk1 (x := i64 ((k + 1 : Nat) : Int)) (by simp [ints, hk1])
        have hk12 : (((k + 1 : Nat) : Int) < (r : Int)) = True := eq_true (by omega)
        repeat' first | (with_reducible (show W _ _ _ _ _); with_reducible refine go2 ?_) | (with_reducible (show W _ _ _ _ _); with_reducible refine sg2 ?_ ?_ <;> intro _) | (with_reducible (show W _ _ (.code (.region 6 _ true) :: _) _ _); with_reducible refine W_draw [(0, []), (2, []), (1, [2]), (3, []), (4, []), (5, [])] [2] (by kernel_rfl) ?_) | (with_reducible (show W _ _ (.code (.region 20 _ true) :: _) _ _); with_reducible refine W_draw [(0, []), (1, []), (2, []), (3, []), (4, [1]), (5, []), (6, []), (7, [])] [1] (by kernel_rfl) ?_) | (with_reducible (show W _ _ (.code (.region 21 _ true) :: _) _ _); with_reducible refine W_draw [(0, []), (1, []), (2, []), (3, []), (4, [2]), (5, [])] [2] (by kernel_rfl) ?_) | (with_reducible (show W _ _ (.code (.region 24 _ true) :: _) _ _); with_reducible refine W_draw [(0, []), (1, []), (2, []), (3, [1]), (4, []), (5, []), (6, [])] [1] (by kernel_rfl) ?_)
        refine W_for (fun j' ρ C4 => ∃ (s : List Int × List Int) (c : Nat), mvS r f j' s = mvS r f (k - f) s0 ∧ Gq r s.1 c ∧ MatOk r r s.2 ∧ c + j' ≤ 21 ∧ f + j' ≤ k ∧ ρ 2 = w ∧ ρ 3 = .ptr H.length 0 ∧ ρ 4 = .ptr (H.length + 1) 0 ∧ ρ 6 = .ptr (H.length + 2) 0 ∧ ρ 7 = .ptr (H.length + 3) 0 ∧ ρ 10 = v ∧ ρ 12 = i64 (f : Int) ∧ ρ 14 = i64 ((f + j' : Nat) : Int) ∧ ρ 15 = i64 1 ∧ ρ 43 = v ∧ ρ 44 = i64 (r : Int) ∧ ρ 45 = i64 (k : Int) ∧ (Old H C4 ∧ hget C4 (H.length + 2) = some ⟨[i64 0, i64 0, i64 0, nils], true⟩ ∧ hget C4 (H.length + 3) = some ⟨[i64 0, i64 0, i64 0, nils], true⟩ ∧ Ls B C4 1 (ints (List.range r)) r v ∧ ∃ p q : Nat, hget C4 H.length = some ⟨[i64 r, i64 r, i64 r, .slice p 0 N N 1], true⟩ ∧ hget C4 (H.length + 1) = some ⟨[i64 r, i64 r, i64 r, .slice q 0 N N 1], true⟩ ∧ H.length + 4 ≤ p ∧ H.length + 4 ≤ q ∧ p ≠ q ∧ hget C4 p = some ⟨(s.1).map u64, true⟩ ∧ hget C4 q = some ⟨(s.2).map u64, true⟩)) (k - f) ?_ ?_
        · exact ⟨s0, trs k, rfl, gd, gE, by omega, by omega, h2, h3, h4, h6, h7, h10, h12, congrArg (fun x : Nat => i64 (x : Int)) (show k = f + (k - f) by omega), rfl, h43, h44, h45, hO2, hc3, hc4, hv2, p2, q2, hc1, hc2, hp4, hq4, hpq, hd1, hd2⟩
        clear h2 h3 h4 h6 h7 h10 h12 h43 h44 h45 hO2 hc3 hc4 hv2 hc1 hc2 hp4 hq4 hpq hd1 hd2 hia hld hwC hib hlb g1 g2 g3 g4 hia1 hld1
        rintro j' ρ' C4 ⟨s, c, hs, gs, es, hcj, hfj, h2, h3, h4, h6, h7, h10, h12, h14, h15, h43, h44, h45, hO2, hc3, hc4, hv2, p3, q3, hc1, hc2, hp4, hq4, hpq, hd1, hd2⟩
        have g1 := lt_of_hget hc1
        have g2 := lt_of_hget hc2
        have g3 := lt_of_hget hc3
        have g4 := lt_of_hget hc4
        have ef : IntKind.i64.wrap ((f : Int) + 1) = ((f + 1 : Nat) : Int) := by rw [wrap_i64 (by omega)]; omega
        cases j' with
        | zero =>
          have hc0 : ((f : Int) < (f : Int)) = False := eq_false (by omega)
          rw [Nat.add_zero] at h14
          have hs' : Hid2 (s = mvS r f (k - f) s0) := hs
          clear hs
          repeat' first | (with_reducible (show W _ _ _ _ _); with_reducible refine go2 ?_) | (with_reducible (show W _ _ _ _ _); with_reducible refine sg2 ?_ ?_ <;> intro _) | (with_reducible (show W _ _ _ _ _); with_reducible refine sc2 ?_ ?_ <;> intro _) | (with_reducible (show W _ _ (.code (.region 6 _ true) :: _) _ _); with_reducible refine W_draw [(0, []), (2, []), (1, [2]), (3, []), (4, []), (5, [])] [2] (by kernel_rfl) ?_) | (with_reducible (show W _ _ (.code (.region 20 _ true) :: _) _ _); with_reducible refine W_draw [(0, []), (1, []), (2, []), (3, []), (4, [1]), (5, []), (6, []), (7, [])] [1] (by kernel_rfl) ?_) | (with_reducible (show W _ _ (.code (.region 21 _ true) :: _) _ _); with_reducible refine W_draw [(0, []), (1, []), (2, []), (3, []), (4, [2]), (5, [])] [2] (by kernel_rfl) ?_) | (with_reducible (show W _ _ (.code (.region 24 _ true) :: _) _ _); with_reducible refine W_draw [(0, []), (1, []), (2, []), (3, [1]), (4, []), (5, []), (6, [])] [1] (by kernel_rfl) ?_)
          have hst : slS r ws D E (k + 1) = (s, f + 1) := by rw [show s = _ from hs']; exact hst2
          all_goals exact ⟨j - 1, by omega, k + 1, by omega, by rw [hst], rfl, p3, q3, rfl, rfl, hp4, hq4, hpq, by rw [hst]; exact hd1, by rw [hst]; exact hd2⟩
        | succ m =>
          have hc0 : ((f : Int) < ((f + (m + 1) : Nat) : Int)) = True := eq_true (by omega)
          have ha : ((f + m + 1 : Nat) : Int) < (r : Int) := by omega
          obtain ⟨gs2, hof⟩ := gs.ones (by omega) (by omega) (a := f + m) ha
          obtain ⟨k0, _, _, tg⟩ := gs
          have hl1 : s.1.length = N := tg.ok.len.trans hN
          have hs' : Hid2 (mvS r f (m + 1) s = mvS r f (k - f) s0) := hs
          clear hs
          repeat' first | (with_reducible (show W _ _ _ _ _); with_reducible refine go2 ?_) | (with_reducible (show W _ _ _ _ _); with_reducible refine sg2 ?_ ?_ <;> intro _) | (with_reducible (show W _ _ (.code (.region 6 _ true) :: _) _ _); with_reducible refine W_draw [(0, []), (2, []), (1, [2]), (3, []), (4, []), (5, [])] [2] (by kernel_rfl) ?_) | (with_reducible (show W _ _ (.code (.region 20 _ true) :: _) _ _); with_reducible refine W_draw [(0, []), (1, []), (2, []), (3, []), (4, [1]), (5, []), (6, []), (7, [])] [1] (by kernel_rfl) ?_) | (with_reducible (show W _ _ (.code (.region 21 _ true) :: _) _ _); with_reducible refine W_draw [(0, []), (1, []), (2, []), (3, []), (4, [2]), (5, [])] [2] (by kernel_rfl) ?_) | (with_reducible (show W _ _ (.code (.region 24 _ true) :: _) _ _); with_reducible refine W_draw [(0, []), (1, []), (2, []), (3, [1]), (4, []), (5, []), (6, [])] [1] (by kernel_rfl) ?_)
          (with_reducible (show CallK _ _ _ _ _ _ _ _ _ _ _)); with_reducible refine cm2 (before_spec tg.ok tg.tri hl1 hd1 (a := f + m) ha) ?_
          repeat' first | (with_reducible (show W _ _ _ _ _); with_reducible refine go2 ?_) | (with_reducible (show W _ _ _ _ _); with_reducible refine sg2 ?_ ?_ <;> intro _) | (with_reducible (show W _ _ (.code (.region 6 _ true) :: _) _ _); with_reducible refine W_draw [(0, []), (2, []), (1, [2]), (3, []), (4, []), (5, [])] [2] (by kernel_rfl) ?_) | (with_reducible (show W _ _ (.code (.region 20 _ true) :: _) _ _); with_reducible refine W_draw [(0, []), (1, []), (2, []), (3, []), (4, [1]), (5, []), (6, []), (7, [])] [1] (by kernel_rfl) ?_) | (with_reducible (show W _ _ (.code (.region 21 _ true) :: _) _ _); with_reducible refine W_draw [(0, []), (1, []), (2, []), (3, []), (4, [2]), (5, [])] [2] (by kernel_rfl) ?_) | (with_reducible (show W _ _ (.code (.region 24 _ true) :: _) _ _); with_reducible refine W_draw [(0, []), (1, []), (2, []), (3, [1]), (4, []), (5, []), (6, [])] [1] (by kernel_rfl) ?_)
          (with_reducible (show CallK _ _ _ _ _ _ _ _ _ _ _)); with_reducible refine cm2 (adjacent_spec tg.ok es tg.all.inD tg.tri ha hof hd1 hd2 hN) ?_
          have hs1 : ∀ x, hget (C4.set H.length x) (H.length + 1) = some ⟨[i64 r, i64 r, i64 r, .slice q3 0 N N 1], true⟩ := fun x => (hget_set_ne (by omega) _).trans hc2
          have hs2 : ∀ x (L : MH), hget (C4.set H.length x ++ L) (H.length + 1) = some ⟨[i64 r, i64 r, i64 r, .slice q3 0 N N 1], true⟩ := fun x L => hget_appL (hs1 x)
          repeat' first | (with_reducible (show W _ _ _ _ _); with_reducible refine go2 ?_) | (with_reducible (show W _ _ _ _ _); with_reducible refine sg2 ?_ ?_ <;> intro _) | (with_reducible (show W _ _ (.code (.region 6 _ true) :: _) _ _); with_reducible refine W_draw [(0, []), (2, []), (1, [2]), (3, []), (4, []), (5, [])] [2] (by kernel_rfl) ?_) | (with_reducible (show W _ _ (.code (.region 20 _ true) :: _) _ _); with_reducible refine W_draw [(0, []), (1, []), (2, []), (3, []), (4, [1]), (5, []), (6, []), (7, [])] [1] (by kernel_rfl) ?_) | (with_reducible (show W _ _ (.code (.region 21 _ true) :: _) _ _); with_reducible refine W_draw [(0, []), (1, []), (2, []), (3, []), (4, [2]), (5, [])] [2] (by kernel_rfl) ?_) | (with_reducible (show W _ _ (.code (.region 24 _ true) :: _) _ _); with_reducible refine W_draw [(0, []), (1, []), (2, []), (3, [1]), (4, []), (5, []), (6, [])] [1] (by kernel_rfl) ?_)
          refine ⟨m, by omega, (onesD r s.1 (f + m), onesE r s.1 s.2 (f + m)), c + 1, hs', gs2, cols_ok es _ _ _ _, by omega, by omega, ?_⟩
          have hl : ∀ x y, ((C4.set H.length x).set (H.length + 1) y).length = C4.length := fun x y => by rw [List.length_set, List.length_set]
          exact ⟨rfl, ((hO2.setq _ (by omega)).setq _ (by omega)).app _, (hget_set_ne (by omega) _).trans ((hget_set_ne (by omega) _).trans hc3), (hget_set_ne (by omega) _).trans ((hget_set_ne (by omega) _).trans hc4), ((hv2.set_lt (by omega) _).set_lt (by omega) _).app _, C4.length, C4.length + 1, (hget_set_ne (by omega) _).trans (hget_set_same (by omega) _), rfl, by omega, by omega, by omega, hget_newL' (hl _ _), hget_newL (hl _ _)⟩
      · have hk12 : (((k + 1 : Nat) : Int) < (r : Int)) = False := eq_false (by omega)
        have hone' := hone (by omega)
        repeat' first | (with_reducible (show W _ _ _ _ _); with_reducible refine go2 ?_) | (with_reducible (show W _ _ _ _ _); with_reducible refine sg2 ?_ ?_ <;> intro _) | (with_reducible (show W _ _ (.code (.region 6 _ true) :: _) _ _); with_reducible refine W_draw [(0, []), (2, []), (1, [2]), (3, []), (4, []), (5, [])] [2] (by kernel_rfl) ?_) | (with_reducible (show W _ _ (.code (.region 20 _ true) :: _) _ _); with_reducible refine W_draw [(0, []), (1, []), (2, []), (3, []), (4, [1]), (5, []), (6, []), (7, [])] [1] (by kernel_rfl) ?_) | (with_reducible (show W _ _ (.code (.region 21 _ true) :: _) _ _); with_reducible refine W_draw [(0, []), (1, []), (2, []), (3, []), (4, [2]), (5, [])] [2] (by kernel_rfl) ?_) | (with_reducible (show W _ _ (.code (.region 24 _ true) :: _) _ _); with_reducible refine W_draw [(0, []), (1, []), (2, []), (3, [1]), (4, []), (5, []), (6, [])] [1] (by kernel_rfl) ?_)
        refine W_for (fun j' ρ C4 => ∃ (s : List Int × List Int) (c : Nat), mvS r f j' s = mvS r f (k - f) s0 ∧ Gq r s.1 c ∧ MatOk r r s.2 ∧ c + j' ≤ 21 ∧ f + j' ≤ k ∧ ρ 2 = w ∧ ρ 3 = .ptr H.length 0 ∧ ρ 4 = .ptr (H.length + 1) 0 ∧ ρ 6 = .ptr (H.length + 2) 0 ∧ ρ 7 = .ptr (H.length + 3) 0 ∧ ρ 10 = v ∧ ρ 12 = i64 (f : Int) ∧ ρ 14 = i64 ((f + j' : Nat) : Int) ∧ ρ 15 = i64 1 ∧ ρ 43 = v ∧ ρ 44 = i64 (r : Int) ∧ ρ 45 = i64 (k : Int) ∧ (Old H C4 ∧ hget C4 (H.length + 2) = some ⟨[i64 0, i64 0, i64 0, nils], true⟩ ∧ hget C4 (H.length + 3) = some ⟨[i64 0, i64 0, i64 0, nils], true⟩ ∧ Ls B C4 1 (ints (List.range r)) r v ∧ ∃ p q : Nat, hget C4 H.length = some ⟨[i64 r, i64 r, i64 r, .slice p 0 N N 1], true⟩ ∧ hget C4 (H.length + 1) = some ⟨[i64 r, i64 r, i64 r, .slice q 0 N N 1], true⟩ ∧ H.length + 4 ≤ p ∧ H.length + 4 ≤ q ∧ p ≠ q ∧ hget C4 p = some ⟨(s.1).map u64, true⟩ ∧ hget C4 q = some ⟨(s.2).map u64, true⟩)) (k - f) ?_ ?_
        · exact ⟨s0, trs k, rfl, gd, gE, by omega, by omega, h2, h3, h4, h6, h7, h10, h12, congrArg (fun x : Nat => i64 (x : Int)) (show k = f + (k - f) by omega), rfl, h43, h44, h45, hO2, hc3, hc4, hv2, p2, q2, hc1, hc2, hp4, hq4, hpq, hd1, hd2⟩
        clear h2 h3 h4 h6 h7 h10 h12 h43 h44 h45 hO2 hc3 hc4 hv2 hc1 hc2 hp4 hq4 hpq hd1 hd2 hia hld hwC hib hlb g1 g2 g3 g4 hone'
        rintro j' ρ' C4 ⟨s, c, hs, gs, es, hcj, hfj, h2, h3, h4, h6, h7, h10, h12, h14, h15, h43, h44, h45, hO2, hc3, hc4, hv2, p3, q3, hc1, hc2, hp4, hq4, hpq, hd1, hd2⟩
        have g1 := lt_of_hget hc1
        have g2 := lt_of_hget hc2
        have g3 := lt_of_hget hc3
        have g4 := lt_of_hget hc4
        have ef : IntKind.i64.wrap ((f : Int) + 1) = ((f + 1 : Nat) : Int) := by rw [wrap_i64 (by omega)]; omega
        cases j' with
        | zero =>
          have hc0 : ((f : Int) < (f : Int)) = False := eq_false (by omega)
          rw [Nat.add_zero] at h14
          have hs' : Hid2 (s = mvS r f (k - f) s0) := hs
          clear hs
          repeat' first | (with_reducible (show W _ _ _ _ _); with_reducible refine go2 ?_) | (with_reducible (show W _ _ _ _ _); with_reducible refine sg2 ?_ ?_ <;> intro _) | (with_reducible (show W _ _ _ _ _); with_reducible refine sc2 ?_ ?_ <;> intro _) | (with_reducible (show W _ _ (.code (.region 6 _ true) :: _) _ _); with_reducible refine W_draw [(0, []), (2, []), (1, [2]), (3, []), (4, []), (5, [])] [2] (by kernel_rfl) ?_) | (with_reducible (show W _ _ (.code (.region 20 _ true) :: _) _ _); with_reducible refine W_draw [(0, []), (1, []), (2, []), (3, []), (4, [1]), (5, []), (6, []), (7, [])] [1] (by kernel_rfl) ?_) | (with_reducible (show W _ _ (.code (.region 21 _ true) :: _) _ _); with_reducible refine W_draw [(0, []), (1, []), (2, []), (3, []), (4, [2]), (5, [])] [2] (by kernel_rfl) ?_) | (with_reducible (show W _ _ (.code (.region 24 _ true) :: _) _ _); with_reducible refine W_draw [(0, []), (1, []), (2, []), (3, [1]), (4, []), (5, []), (6, [])] [1] (by kernel_rfl) ?_)
          have hst : slS r ws D E (k + 1) = (s, f + 1) := by rw [show s = _ from hs']; exact hst2
          all_goals exact ⟨j - 1, by omega, k + 1, by omega, by rw [hst], rfl, p3, q3, rfl, rfl, hp4, hq4, hpq, by rw [hst]; exact hd1, by rw [hst]; exact hd2⟩
        | succ m =>
          have hc0 : ((f : Int) < ((f + (m + 1) : Nat) : Int)) = True := eq_true (by omega)
          have ha : ((f + m + 1 : Nat) : Int) < (r : Int) := by omega
          obtain ⟨gs2, hof⟩ := gs.ones (by omega) (by omega) (a := f + m) ha
          obtain ⟨k0, _, _, tg⟩ := gs
          have hl1 : s.1.length = N := tg.ok.len.trans hN
          have hs' : Hid2 (mvS r f (m + 1) s = mvS r f (k - f) s0) := hs
          clear hs
          repeat' first | (with_reducible (show W _ _ _ _ _); with_reducible refine go2 ?_) | (with_reducible (show W _ _ _ _ _); with_reducible refine sg2 ?_ ?_ <;> intro _) | (with_reducible (show W _ _ (.code (.region 6 _ true) :: _) _ _); with_reducible refine W_draw [(0, []), (2, []), (1, [2]), (3, []), (4, []), (5, [])] [2] (by kernel_rfl) ?_) | (with_reducible (show W _ _ (.code (.region 20 _ true) :: _) _ _); with_reducible refine W_draw [(0, []), (1, []), (2, []), (3, []), (4, [1]), (5, []), (6, []), (7, [])] [1] (by kernel_rfl) ?_) | (with_reducible (show W _ _ (.code (.region 21 _ true) :: _) _ _); with_reducible refine W_draw [(0, []), (1, []), (2, []), (3, []), (4, [2]), (5, [])] [2] (by kernel_rfl) ?_) | (with_reducible (show W _ _ (.code (.region 24 _ true) :: _) _ _); with_reducible refine W_draw [(0, []), (1, []), (2, []), (3, [1]), (4, []), (5, []), (6, [])] [1] (by kernel_rfl) ?_)
          (with_reducible (show CallK _ _ _ _ _ _ _ _ _ _ _)); with_reducible refine cm2 (before_spec tg.ok tg.tri hl1 hd1 (a := f + m) ha) ?_
          repeat' first | (with_reducible (show W _ _ _ _ _); with_reducible refine go2 ?_) | (with_reducible (show W _ _ _ _ _); with_reducible refine sg2 ?_ ?_ <;> intro _) | (with_reducible (show W _ _ (.code (.region 6 _ true) :: _) _ _); with_reducible refine W_draw [(0, []), (2, []), (1, [2]), (3, []), (4, []), (5, [])] [2] (by kernel_rfl) ?_) | (with_reducible (show W _ _ (.code (.region 20 _ true) :: _) _ _); with_reducible refine W_draw [(0, []), (1, []), (2, []), (3, []), (4, [1]), (5, []), (6, []), (7, [])] [1] (by kernel_rfl) ?_) | (with_reducible (show W _ _ (.code (.region 21 _ true) :: _) _ _); with_reducible refine W_draw [(0, []), (1, []), (2, []), (3, []), (4, [2]), (5, [])] [2] (by kernel_rfl) ?_) | (with_reducible (show W _ _ (.code (.region 24 _ true) :: _) _ _); with_reducible refine W_draw [(0, []), (1, []), (2, []), (3, [1]), (4, []), (5, []), (6, [])] [1] (by kernel_rfl) ?_)
          (with_reducible (show CallK _ _ _ _ _ _ _ _ _ _ _)); with_reducible refine cm2 (adjacent_spec tg.ok es tg.all.inD tg.tri ha hof hd1 hd2 hN) ?_
          have hs1 : ∀ x, hget (C4.set H.length x) (H.length + 1) = some ⟨[i64 r, i64 r, i64 r, .slice q3 0 N N 1], true⟩ := fun x => (hget_set_ne (by omega) _).trans hc2
          have hs2 : ∀ x (L : MH), hget (C4.set H.length x ++ L) (H.length + 1) = some ⟨[i64 r, i64 r, i64 r, .slice q3 0 N N 1], true⟩ := fun x L => hget_appL (hs1 x)
          repeat' first | (with_reducible (show W _ _ _ _ _); with_reducible refine go2 ?_) | (with_reducible (show W _ _ _ _ _); with_reducible refine sg2 ?_ ?_ <;> intro _) | (with_reducible (show W _ _ (.code (.region 6 _ true) :: _) _ _); with_reducible refine W_draw [(0, []), (2, []), (1, [2]), (3, []), (4, []), (5, [])] [2] (by kernel_rfl) ?_) | (with_reducible (show W _ _ (.code (.region 20 _ true) :: _) _ _); with_reducible refine W_draw [(0, []), (1, []), (2, []), (3, []), (4, [1]), (5, []), (6, []), (7, [])] [1] (by kernel_rfl) ?_) | (with_reducible (show W _ _ (.code (.region 21 _ true) :: _) _ _); with_reducible refine W_draw [(0, []), (1, []), (2, []), (3, []), (4, [2]), (5, [])] [2] (by kernel_rfl) ?_) | (with_reducible (show W _ _ (.code (.region 24 _ true) :: _) _ _); with_reducible refine W_draw [(0, []), (1, []), (2, []), (3, [1]), (4, []), (5, []), (6, [])] [1] (by kernel_rfl) ?_)
          refine ⟨m, by omega, (onesD r s.1 (f + m), onesE r s.1 s.2 (f + m)), c + 1, hs', gs2, cols_ok es _ _ _ _, by omega, by omega, ?_⟩
          have hl : ∀ x y, ((C4.set H.length x).set (H.length + 1) y).length = C4.length := fun x y => by rw [List.length_set, List.length_set]
          exact ⟨rfl, ((hO2.setq _ (by omega)).setq _ (by omega)).app _, (hget_set_ne (by omega) _).trans ((hget_set_ne (by omega) _).trans hc3), (hget_set_ne (by omega) _).trans ((hget_set_ne (by omega) _).trans hc4), ((hv2.set_lt (by omega) _).set_lt (by omega) _).app _, C4.length, C4.length + 1, (hget_set_ne (by omega) _).trans (hget_set_same (by omega) _), rfl, by omega, by omega, by omega, hget_newL' (hl _ _), hget_newL (hl _ _)⟩
  · have hkl2 : ((k : Int) < (r : Int)) = False := eq_false (by omega)
    obtain rfl : k = r := by omega
    have hs2 : ∀ x, hget (C3.set (H.length + 2) x) (H.length + 3) = some ⟨[i64 0, i64 0, i64 0, nils], true⟩ := fun x => (hget_set_ne (by omega) _).trans hc4
    have hs3 : ∀ x, hget (C3.set (H.length + 2) x) (H.length + 1) = some ⟨[i64 k, i64 k, i64 k, .slice q2 0 N N 1], true⟩ := fun x => (hget_set_ne (by omega) _).trans hc2
    have hs4 : ∀ x y, hget ((C3.set (H.length + 2) x).set (H.length + 3) y) (H.length + 2) = x := fun x y => (hget_set_ne (by omega) _).trans (hget_set_same (by omega) _)
    have hs5 : ∀ x y, hget ((C3.set (H.length + 2) x).set (H.length + 3) y) (H.length + 3) = y := fun x y => hget_set_same (by rw [List.length_set]; omega) _
    repeat' first | (with_reducible (show W _ _ _ _ _); with_reducible refine go2 ?_) | (with_reducible (show W _ _ _ _ _); with_reducible refine sg2 ?_ ?_ <;> intro _) | (with_reducible (show W _ _ _ _ _); with_reducible refine sc2 ?_ ?_ <;> intro _) | (with_reducible (show W _ _ (.code (.region 6 _ true) :: _) _ _); with_reducible refine W_draw [(0, []), (2, []), (1, [2]), (3, []), (4, []), (5, [])] [2] (by kernel_rfl) ?_) | (with_reducible (show W _ _ (.code (.region 20 _ true) :: _) _ _); with_reducible refine W_draw [(0, []), (1, []), (2, []), (3, []), (4, [1]), (5, []), (6, []), (7, [])] [1] (by kernel_rfl) ?_) | (with_reducible (show W _ _ (.code (.region 21 _ true) :: _) _ _); with_reducible refine W_draw [(0, []), (1, []), (2, []), (3, []), (4, [2]), (5, [])] [2] (by kernel_rfl) ?_) | (with_reducible (show W _ _ (.code (.region 24 _ true) :: _) _ _); with_reducible refine W_draw [(0, []), (1, []), (2, []), (3, [1]), (4, []), (5, []), (6, [])] [1] (by kernel_rfl) ?_)
    exact ⟨p2, q2, rfl, hpq, by omega, by omega, (hget_set_ne (by omega) _).trans ((hget_set_ne (by omega) _).trans hd1), (hget_set_ne (by omega) _).trans ((hget_set_ne (by omega) _).trans hd2), ((hO2.setq _ (by omega)).setq _ (by omega)).2⟩
end Go.Proofs.YtdbngjlhcjjhbaaGreatDoor.M
