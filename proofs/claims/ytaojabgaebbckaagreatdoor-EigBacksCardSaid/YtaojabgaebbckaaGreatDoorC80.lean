/- bal.lone, swap. -/
import Derived.Test.YtaojabgaebbckaaGreatDoorC37
set_option linter.unusedSimpArgs false
set_option linter.unusedVariables false
set_option pp.deepTerms false
set_option pp.maxSteps 1500
set_option maxRecDepth 10000
set_option maxHeartbeats 4000000
namespace Go.Proofs.YtaojabgaebbckaaGreatDoor.M
open Go Go.Proofs

theorem lone_spec {n : Int} {p z : Nat} {D : List Int} (h : MatOk n n D) {N : Nat} (hN : D.length = N) {H : MH} {rw : Bool} (hp : hget H p = some ⟨D.map u64, rw⟩) (i lo hi : Int) (col : Bool) (hb : 0 ≤ lo ∧ hi ≤ 4096) :
    Spec Tryz.prog 23 [mx n n n p N z, i64 i, i64 lo, i64 hi, bl col] H fun u H' => ∃ b : Bool, True ∧ u = bl b ∧ H' = H := by
  refine Spec.scalarE (G := fun _ : Bool => True) (r := fun b => bl b) (enterS Tryz.func23 [.tmp 10] ?_)
  repeat' first | (with_reducible (show W _ _ _ _ _); with_reducible refine go2 ?_) | (with_reducible (show W _ _ _ _ _); with_reducible refine sg2 ?_ ?_ <;> intro _)
  have hpL : ∀ L : MH, hget (H ++ L) p = some ⟨D.map u64, rw⟩ := fun L => hget_appL hp
  refine W_for (fun j ρ C => ∃ k : Int, lo ≤ k ∧ j = (hi - k).toNat ∧ ρ 1 = i64 i ∧ ρ 3 = i64 hi ∧ ρ 4 = bl col ∧ ρ 5 = .ptr H.length 0 ∧ ρ 11 = i64 k ∧ C = H ++ [some ⟨[i64 n, i64 n, i64 n, .slice p 0 N z 1], true⟩]) (hi - lo).toNat ?_ ?_
  · exact ⟨lo, Int.le_refl _, rfl, rfl, rfl, rfl, rfl, rfl, rfl⟩
  rintro j ρ C ⟨k, hk, hj, h1, h3, h4, h5, h11, rfl⟩
  have ek : k < hi → IntKind.i64.wrap (k + 1) = k + 1 := fun h => wrap_i64 (by omega)
  cases col
  all_goals
    repeat' first | (with_reducible (show W _ _ _ _ _); with_reducible refine go2 ?_) | (with_reducible (show W _ _ _ _ _); with_reducible refine sg2 ?_ ?_ <;> intro _) | (with_reducible (show W _ _ _ _ _); with_reducible refine sc2 ?_ ?_ <;> intro _) | (with_reducible (show CallK _ _ _ _ _ _ _ _ _ _ _); with_reducible refine ce2 (at_ok h _ _ (hpL _) hN) ?_) | (with_reducible (show CallK _ _ _ _ _ _ _ _ _ _ _); with_reducible refine ce2 (kind_spec _ _) ?_)
    all_goals first
      | exact ⟨(hi - (k + 1)).toNat, by omega, k + 1, by omega, rfl, rfl⟩
      | exact ⟨(hi - (k + 1)).toNat, by omega, k + 1, by omega, rfl, by rw [ek (by assumption)]⟩
      | (have e : k = i := by assumption
         exact ⟨(hi - (i + 1)).toNat, by omega, i + 1, by omega, rfl, by rw [wrap_i64 (by omega)]⟩)
      | exact ⟨true, rfl⟩
      | exact ⟨false, rfl⟩
      | trace_state
/-- Nothing but some places has changed. -/
def Fr (H C : MH) (ps : List Nat) : Prop := H.length ≤ C.length ∧ ∀ q, q < H.length → q ∉ ps → C[q]? = H[q]?
theorem Fr.get {H C : MH} {ps : List Nat} (h : Fr H C ps) {q : Nat} {o : MO} (hq : hget H q = some o) (hn : q ∉ ps) : hget C q = some o := by
  have := lt_of_hget hq
  unfold hget at hq ⊢
  rw [h.2 q this hn]; exact hq
theorem Fr.old {H0 H C : MH} {ps : List Nat} (h0 : Old H0 H) (h : Fr H C ps) (hp : ∀ p ∈ ps, H0.length ≤ p) : Old H0 C := ⟨by have := h.1; have := h0.1; omega, fun q hq => by
  have := h0.1
  rw [h.2 q (by omega) (fun hm => by have := hp q hm; omega)]
  exact h0.2 q hq⟩
theorem Fr.setq {H C : MH} {ps : List Nat} (h : Fr H C ps) {q : Nat} (hq : q ∈ ps) (x : Option MO) : Fr H (C.set q x) ps := ⟨by rw [List.length_set]; exact h.1, fun r hr hn => by
  rw [List.getElem?_set_ne (fun e => hn (by rw [← e]; exact hq))]
  exact h.2 r hr hn⟩
theorem swap_spec {n : Int} {p z P1 P2 pb : Nat} {lo hi : Int} {D pl : List Int} (h : MatOk n n D) (hI : InD D) {N : Nat} (hN : D.length = N) {H : MH} (hp : hget H p = some ⟨D.map u64, true⟩)
    (hP : hget H P1 = some ⟨pl.map i64, true⟩) (hl : pl.length = n.toNat) (hb : hget H pb = some ⟨[.slice P1 0 n.toNat n.toNat 1, .slice P2 0 n.toNat n.toNat 1, i64 lo, i64 hi], true⟩) (hne : p ≠ P1 ∧ p ≠ pb ∧ P1 ≠ pb) {i k : Nat} (hi : (i : Int) < n) (hk : (k : Int) < n) :
    Spec Tryz.prog 24 [mx n n n p N z, .ptr pb 0, i64 (i : Int), i64 (k : Int)] H fun u H' => ∃ (pl' D' : List Int), u = .tup [] ∧ Fr H H' [P1, p] ∧ pl'.length = n.toNat ∧ MatOk n n D' ∧ InD D' ∧ hget H' P1 = some ⟨pl'.map i64, true⟩ ∧ hget H' p = some ⟨D'.map u64, true⟩ := by
  refine enterS Tryz.func24 [] ?_
  have hpl := lt_of_hget hp
  have hql := lt_of_hget hP
  have hbl := lt_of_hget hb
  have hr := h.r0
  have hr1 := h.r1
  have hpL : ∀ L : MH, hget (H ++ L) p = _ := fun L => hget_appL hp
  have hPL : ∀ L : MH, hget (H ++ L) P1 = _ := fun L => hget_appL hP
  have hbL : ∀ L : MH, hget (H ++ L) pb = _ := fun L => hget_appL hb
  have hii : iaV (.slice 1 8 (some [.int .i64 0]) true) (.slice P1 0 n.toNat n.toNat 1) (.lit (.int .i64 (i : Int))) = some (.ptr P1 i) := by
    rw [iaV_slice, if_pos ⟨by omega, by omega⟩]; simp
  have hik : iaV (.slice 1 8 (some [.int .i64 0]) true) (.slice P1 0 n.toNat n.toNat 1) (.lit (.int .i64 (k : Int))) = some (.ptr P1 k) := by
    rw [iaV_slice, if_pos ⟨by omega, by omega⟩]; simp
  have hgi : (pl.map i64)[i]? = some (i64 (pl.getD i 0)) := by rw [List.getElem?_map, List.getD_eq_getElem?_getD, List.getElem?_eq_getElem (by omega)]; rfl
  have hgk : (pl.map i64)[k]? = some (i64 (pl.getD k 0)) := by rw [List.getElem?_map, List.getD_eq_getElem?_getD, List.getElem?_eq_getElem (by omega)]; rfl
  have hsb : ∀ x, hget (H.set P1 x) pb = _ := fun x => (hget_set_ne hne.2.2 _).trans hb
  have hsbL : ∀ x (L : MH), hget (H.set P1 x ++ L) pb = _ := fun x L => hget_appL (hsb x)
  have hil : (i + 1 ≤ (pl.map i64).length) = True := eq_true (by rw [List.length_map]; omega)
  have hil2 : ∀ x, (k + 1 ≤ ((pl.map i64).set i x).length) = True := fun x => eq_true (by rw [List.length_set, List.length_map]; omega)
  have hsq : ∀ x (L : MH), hget (H.set P1 x ++ L) P1 = x := fun x L => (hget_old (by rw [List.length_set]; exact hql)).trans (hget_set_same hql _)
  repeat' first | (with_reducible (show W _ _ _ _ _); with_reducible refine go2 ?_) | (with_reducible (show W _ _ _ _ _); with_reducible refine sg2 ?_ ?_ <;> intro _) | (with_reducible (show W _ _ (.code (.region 2 _ true) :: _) _ _); with_reducible refine W_draw [(0, []), (1, []), (2, []), (3, []), (4, []), (5, []), (6, []), (7, []), (8, []), (9, []), (10, []), (11, []), (12, []), (13, []), (14, []), (15, []), (16, []), (17, []), (18, []), (19, []), (20, []), (21, []), (22, []), (23, []), (24, []), (25, []), (26, []), (27, [])] [] (by kernel_rfl) ?_) | (with_reducible (show W _ _ (.code (.region 6 _ true) :: _) _ _); with_reducible refine W_draw [(0, []), (1, []), (2, []), (4, []), (5, []), (6, []), (3, [4]), (7, []), (8, []), (9, [])] [4] (by kernel_rfl) ?_) | (with_reducible (show W _ _ (.code (.region 13 _ true) :: _) _ _); with_reducible refine W_draw [(0, []), (1, []), (2, []), (4, []), (5, []), (6, []), (3, [4]), (7, []), (8, []), (9, [])] [4] (by kernel_rfl) ?_)
  refine sc2 ?_ ?_ <;> intro hik0
  · repeat' first | (with_reducible (show W _ _ _ _ _); with_reducible refine go2 ?_) | (with_reducible (show W _ _ _ _ _); with_reducible refine sg2 ?_ ?_ <;> intro _) | (with_reducible (show W _ _ _ _ _); with_reducible refine sc2 ?_ ?_ <;> intro _) | (with_reducible (show W _ _ (.code (.region 2 _ true) :: _) _ _); with_reducible refine W_draw [(0, []), (1, []), (2, []), (3, []), (4, []), (5, []), (6, []), (7, []), (8, []), (9, []), (10, []), (11, []), (12, []), (13, []), (14, []), (15, []), (16, []), (17, []), (18, []), (19, []), (20, []), (21, []), (22, []), (23, []), (24, []), (25, []), (26, []), (27, [])] [] (by kernel_rfl) ?_) | (with_reducible (show W _ _ (.code (.region 6 _ true) :: _) _ _); with_reducible refine W_draw [(0, []), (1, []), (2, []), (4, []), (5, []), (6, []), (3, [4]), (7, []), (8, []), (9, [])] [4] (by kernel_rfl) ?_) | (with_reducible (show W _ _ (.code (.region 13 _ true) :: _) _ _); with_reducible refine W_draw [(0, []), (1, []), (2, []), (4, []), (5, []), (6, []), (3, [4]), (7, []), (8, []), (9, [])] [4] (by kernel_rfl) ?_)
    exact ⟨pl, D, ⟨by simp, fun q hq _ => List.getElem?_append_left hq⟩, hl, h, hI, rfl, rfl⟩
  repeat' first | (with_reducible (show W _ _ _ _ _); with_reducible refine go2 ?_) | (with_reducible (show W _ _ _ _ _); with_reducible refine sg2 ?_ ?_ <;> intro _) | (with_reducible (show W _ _ (.code (.region 2 _ true) :: _) _ _); with_reducible refine W_draw [(0, []), (1, []), (2, []), (3, []), (4, []), (5, []), (6, []), (7, []), (8, []), (9, []), (10, []), (11, []), (12, []), (13, []), (14, []), (15, []), (16, []), (17, []), (18, []), (19, []), (20, []), (21, []), (22, []), (23, []), (24, []), (25, []), (26, []), (27, [])] [] (by kernel_rfl) ?_) | (with_reducible (show W _ _ (.code (.region 6 _ true) :: _) _ _); with_reducible refine W_draw [(0, []), (1, []), (2, []), (4, []), (5, []), (6, []), (3, [4]), (7, []), (8, []), (9, [])] [4] (by kernel_rfl) ?_) | (with_reducible (show W _ _ (.code (.region 13 _ true) :: _) _ _); with_reducible refine W_draw [(0, []), (1, []), (2, []), (4, []), (5, []), (6, []), (3, [4]), (7, []), (8, []), (9, [])] [4] (by kernel_rfl) ?_)
  obtain ⟨pl', hpl'⟩ : ∃ pl', (pl.set i (pl.getD k 0)).set k (pl.getD i 0) = pl' := ⟨_, rfl⟩
  have hl' : pl'.length = n.toNat := by rw [← hpl', List.length_set, List.length_set, hl]
  have hm' : ((pl.map i64).set i (i64 (pl.getD k 0))).set k (i64 (pl.getD i 0)) = pl'.map i64 := by rw [← hpl', List.map_set, List.map_set]
  refine W_for (fun j ρ C => ∃ (t : Nat) (D' : List Int), t + j = n.toNat ∧ ρ 2 = i64 (i : Int) ∧ ρ 3 = i64 (k : Int) ∧ ρ 4 = .ptr H.length 0 ∧ ρ 44 = i64 n ∧ ρ 45 = i64 (t : Int) ∧ Fr H C [P1, p] ∧ C.length = H.length + 1 ∧ MatOk n n D' ∧ InD D' ∧ hget C P1 = some ⟨pl'.map i64, true⟩ ∧ hget C p = some ⟨D'.map u64, true⟩ ∧ hget C H.length = some ⟨[i64 n, i64 n, i64 n, .slice p 0 N z 1], true⟩) n.toNat ?_ ?_
  · refine ⟨0, D, by omega, rfl, rfl, rfl, rfl, rfl, ⟨by simp, fun q hq hn => ?_⟩, by simp, h, hI, ?_, ?_, hget_newL' (by simp)⟩
    · simp only [List.mem_cons, List.not_mem_nil, or_false, not_or] at hn
      rw [List.getElem?_append_left (by rw [List.length_set]; exact hq), List.getElem?_set_ne (Ne.symm hn.1)]
    · rw [← hm']; exact hsq _ _
    · exact hget_appL ((hget_set_ne (Ne.symm hne.1) _).trans hp)
  clear hii hik hgi hgk hsb hsbL hil hil2 hsq hm' hpl' hpL hPL hbL
  rintro j ρ C ⟨t, D', ht, h2, h3, h4, h44, h45, hF, hCl, okD, inD, c5, c6, c7⟩
  by_cases htn : (t : Int) < n
  · have htn2 : ((t : Int) < n) = True := eq_true htn
    have hDl : D'.length = N := by rw [okD.len, ← h.len, hN]
    have gp := lt_of_hget c6
    have gb := lt_of_hget c7
    have hbx : ∀ x, hget (C.set p x) H.length = some ⟨[i64 n, i64 n, i64 n, .slice p 0 N z 1], true⟩ := fun x => (hget_set_ne (by omega) _).trans c7
    have et : IntKind.i64.wrap ((t : Int) + 1) = ((t + 1 : Nat) : Int) := by rw [wrap_i64 (by omega)]; omega
    repeat' first | (with_reducible (show W _ _ _ _ _); with_reducible refine go2 ?_) | (with_reducible (show W _ _ _ _ _); with_reducible refine sg2 ?_ ?_ <;> intro _) | (with_reducible (show W _ _ _ _ _); with_reducible refine sc2 ?_ ?_ <;> intro _) | (with_reducible (show CallK _ _ _ _ _ _ _ _ _ _ _); with_reducible refine ce2 (at_ok okD _ _ c6 hDl) ?_) | (with_reducible (show W _ _ (.code (.region 2 _ true) :: _) _ _); with_reducible refine W_draw [(0, []), (1, []), (2, []), (3, []), (4, []), (5, []), (6, []), (7, []), (8, []), (9, []), (10, []), (11, []), (12, []), (13, []), (14, []), (15, []), (16, []), (17, []), (18, []), (19, []), (20, []), (21, []), (22, []), (23, []), (24, []), (25, []), (26, []), (27, [])] [] (by kernel_rfl) ?_) | (with_reducible (show W _ _ (.code (.region 6 _ true) :: _) _ _); with_reducible refine W_draw [(0, []), (1, []), (2, []), (4, []), (5, []), (6, []), (3, [4]), (7, []), (8, []), (9, [])] [4] (by kernel_rfl) ?_) | (with_reducible (show W _ _ (.code (.region 13 _ true) :: _) _ _); with_reducible refine W_draw [(0, []), (1, []), (2, []), (4, []), (5, []), (6, []), (3, [4]), (7, []), (8, []), (9, [])] [4] (by kernel_rfl) ?_) | ((with_reducible (show CallK _ _ _ _ _ _ _ _ _ _ _); first | (with_reducible refine cm2 (set_ok okD _ _ _ c6 hDl) ?_) | (with_reducible refine cm2 (set_ok (okD.set _ _ _) _ _ _ (hget_set_same gp _) ((okD.set _ _ _).len.trans (okD.len.symm.trans hDl))) ?_)))
    all_goals exact ⟨j - 1, by omega, t + 1, _, by omega, rfl, hF.setq (by simp) _, (okD.set _ _ _).set _ _ _, (inD.setm _ _ _ _ _ (atM_in inD _ _ _ _ _)).setm _ _ _ _ _ (atM_in inD _ _ _ _ _), hget_set_same gp _⟩

  · have htn2 : ((t : Int) < n) = False := eq_false htn
    repeat' first | (with_reducible (show W _ _ _ _ _); with_reducible refine go2 ?_) | (with_reducible (show W _ _ _ _ _); with_reducible refine sg2 ?_ ?_ <;> intro _) | (with_reducible (show W _ _ _ _ _); with_reducible refine sc2 ?_ ?_ <;> intro _) | (with_reducible (show W _ _ (.code (.region 2 _ true) :: _) _ _); with_reducible refine W_draw [(0, []), (1, []), (2, []), (3, []), (4, []), (5, []), (6, []), (7, []), (8, []), (9, []), (10, []), (11, []), (12, []), (13, []), (14, []), (15, []), (16, []), (17, []), (18, []), (19, []), (20, []), (21, []), (22, []), (23, []), (24, []), (25, []), (26, []), (27, [])] [] (by kernel_rfl) ?_) | (with_reducible (show W _ _ (.code (.region 6 _ true) :: _) _ _); with_reducible refine W_draw [(0, []), (1, []), (2, []), (4, []), (5, []), (6, []), (3, [4]), (7, []), (8, []), (9, [])] [4] (by kernel_rfl) ?_) | (with_reducible (show W _ _ (.code (.region 13 _ true) :: _) _ _); with_reducible refine W_draw [(0, []), (1, []), (2, []), (4, []), (5, []), (6, []), (3, [4]), (7, []), (8, []), (9, [])] [4] (by kernel_rfl) ?_)
    refine W_for (fun j ρ C => ∃ (t : Nat) (D' : List Int), t + j = n.toNat ∧ ρ 2 = i64 (i : Int) ∧ ρ 3 = i64 (k : Int) ∧ ρ 4 = .ptr H.length 0 ∧ ρ 68 = i64 n ∧ ρ 69 = i64 (t : Int) ∧ Fr H C [P1, p] ∧ C.length = H.length + 1 ∧ MatOk n n D' ∧ InD D' ∧ hget C P1 = some ⟨pl'.map i64, true⟩ ∧ hget C p = some ⟨D'.map u64, true⟩ ∧ hget C H.length = some ⟨[i64 n, i64 n, i64 n, .slice p 0 N z 1], true⟩) n.toNat ?_ ?_
    · exact ⟨0, D', by omega, h2, h3, h4, rfl, rfl, hF, hCl, okD, inD, c5, c6, c7⟩
    clear h2 h3 h4 h44 h45 hF hCl okD inD c5 c6 c7 ht htn htn2 D'
    rintro j ρ C ⟨t, D', ht, h2, h3, h4, h68, h69, hF, hCl, okD, inD, c5, c6, c7⟩
    by_cases htn : (t : Int) < n
    · have htn2 : ((t : Int) < n) = True := eq_true htn
      have hDl : D'.length = N := by rw [okD.len, ← h.len, hN]
      have gp := lt_of_hget c6
      have gb := lt_of_hget c7
      have hbx : ∀ x, hget (C.set p x) H.length = some ⟨[i64 n, i64 n, i64 n, .slice p 0 N z 1], true⟩ := fun x => (hget_set_ne (by omega) _).trans c7
      have et : IntKind.i64.wrap ((t : Int) + 1) = ((t + 1 : Nat) : Int) := by rw [wrap_i64 (by omega)]; omega
      repeat' first | (with_reducible (show W _ _ _ _ _); with_reducible refine go2 ?_) | (with_reducible (show W _ _ _ _ _); with_reducible refine sg2 ?_ ?_ <;> intro _) | (with_reducible (show W _ _ _ _ _); with_reducible refine sc2 ?_ ?_ <;> intro _) | (with_reducible (show CallK _ _ _ _ _ _ _ _ _ _ _); with_reducible refine ce2 (at_ok okD _ _ c6 hDl) ?_) | (with_reducible (show W _ _ (.code (.region 2 _ true) :: _) _ _); with_reducible refine W_draw [(0, []), (1, []), (2, []), (3, []), (4, []), (5, []), (6, []), (7, []), (8, []), (9, []), (10, []), (11, []), (12, []), (13, []), (14, []), (15, []), (16, []), (17, []), (18, []), (19, []), (20, []), (21, []), (22, []), (23, []), (24, []), (25, []), (26, []), (27, [])] [] (by kernel_rfl) ?_) | (with_reducible (show W _ _ (.code (.region 6 _ true) :: _) _ _); with_reducible refine W_draw [(0, []), (1, []), (2, []), (4, []), (5, []), (6, []), (3, [4]), (7, []), (8, []), (9, [])] [4] (by kernel_rfl) ?_) | (with_reducible (show W _ _ (.code (.region 13 _ true) :: _) _ _); with_reducible refine W_draw [(0, []), (1, []), (2, []), (4, []), (5, []), (6, []), (3, [4]), (7, []), (8, []), (9, [])] [4] (by kernel_rfl) ?_) | ((with_reducible (show CallK _ _ _ _ _ _ _ _ _ _ _); first | (with_reducible refine cm2 (set_ok okD _ _ _ c6 hDl) ?_) | (with_reducible refine cm2 (set_ok (okD.set _ _ _) _ _ _ (hget_set_same gp _) ((okD.set _ _ _).len.trans (okD.len.symm.trans hDl))) ?_)))
      all_goals exact ⟨j - 1, by omega, t + 1, _, by omega, rfl, hF.setq (by simp) _, (okD.set _ _ _).set _ _ _, (inD.setm _ _ _ _ _ (atM_in inD _ _ _ _ _)).setm _ _ _ _ _ (atM_in inD _ _ _ _ _), hget_set_same gp _⟩

    · have htn2 : ((t : Int) < n) = False := eq_false htn
      repeat' first | (with_reducible (show W _ _ _ _ _); with_reducible refine go2 ?_) | (with_reducible (show W _ _ _ _ _); with_reducible refine sg2 ?_ ?_ <;> intro _) | (with_reducible (show W _ _ _ _ _); with_reducible refine sc2 ?_ ?_ <;> intro _) | (with_reducible (show W _ _ (.code (.region 2 _ true) :: _) _ _); with_reducible refine W_draw [(0, []), (1, []), (2, []), (3, []), (4, []), (5, []), (6, []), (7, []), (8, []), (9, []), (10, []), (11, []), (12, []), (13, []), (14, []), (15, []), (16, []), (17, []), (18, []), (19, []), (20, []), (21, []), (22, []), (23, []), (24, []), (25, []), (26, []), (27, [])] [] (by kernel_rfl) ?_) | (with_reducible (show W _ _ (.code (.region 6 _ true) :: _) _ _); with_reducible refine W_draw [(0, []), (1, []), (2, []), (4, []), (5, []), (6, []), (3, [4]), (7, []), (8, []), (9, [])] [4] (by kernel_rfl) ?_) | (with_reducible (show W _ _ (.code (.region 13 _ true) :: _) _ _); with_reducible refine W_draw [(0, []), (1, []), (2, []), (4, []), (5, []), (6, []), (3, [4]), (7, []), (8, []), (9, [])] [4] (by kernel_rfl) ?_)
      exact ⟨pl', D', hl', okD, inD, by first | rfl | exact c5, by first | rfl | exact c6⟩
end Go.Proofs.YtaojabgaebbckaaGreatDoor.M
