/- The law SwapOnes, in the small machine. -/
import Derived.Test.YtdbngjlhcjjhbaaGreatDoorC73
import Derived.Test.YtdbngjlhcjjhbaaGreatDoorC75
set_option linter.unusedSimpArgs false
set_option linter.unusedVariables false
set_option pp.deepTerms false
set_option pp.maxSteps 1500
set_option maxRecDepth 10000
set_option maxHeartbeats 16000000
namespace Go.Proofs.YtdbngjlhcjjhbaaGreatDoor.M
open Go Go.Proofs

theorem Old.ex {H C : MH} (h : Old H C) : ∃ J, C = H ++ J := by
  refine ⟨C.drop H.length, ?_⟩
  have : C.take H.length = H := by
    refine List.ext_getElem? fun i => ?_
    rw [List.getElem?_take]
    split
    · exact h.2 i (by assumption)
    · rw [List.getElem?_eq_none (by omega)]
  rw [← List.take_append_drop H.length C, this]
  simp
/-- A list that lies at a place. -/
def Lw (C : MH) (px : Nat) (cs : List MV) (m : Nat) (v : MV) : Prop := cs.length = m ∧ hget C px = some ⟨cs, true⟩ ∧ ∃ c, v = .slice px 0 m c 1 ∧ m ≤ c
theorem Lw.app {C : MH} {px : Nat} {cs : List MV} {m : Nat} {v : MV} (h : Lw C px cs m v) (L : MH) : Lw (C ++ L) px cs m v := ⟨h.1, hget_appL h.2.1, h.2.2⟩
theorem Lw.len {C : MH} {px : Nat} {cs : List MV} {m : Nat} {v : MV} (h : Lw C px cs m v) : lenV Tryz.prog 22 v = some (i64 (m : Int)) := by
  obtain ⟨_, _, c, rfl, _⟩ := h
  simp [lenV, ty_22]
theorem Lw.tail {C : MH} {px : Nat} {cs : List MV} {m : Nat} {v : MV} (h : Lw C px cs m v) : tailV 1 v C = some (cs, m) := by
  obtain ⟨h1, h2, c, rfl, _⟩ := h
  subst h1
  simp only [tailV, if_true, cellsAt_eq, h2]
  simp
theorem Lw.ia {C : MH} {px : Nat} {cs : List MV} {m : Nat} {v : MV} (h : Lw C px cs m v) {j : Nat} (hj : j < m) (e : Nat) (zs : Option (List Value)) (b : Bool) (k : IntKind) : iaV (.slice 1 e zs b) v (.lit (.int k j)) = some (ixz v j 1) := by
  obtain ⟨h1, h2, c, rfl, h3⟩ := h
  rw [iaV_slice, if_pos ⟨by omega, by omega⟩]
  simp [ixz]
theorem Lw.ld {P : Program} {t : TypeId} (hk : (ty P t).known = true) (ha : (ty P t).agg = false) {C : MH} {px : Nat} {cs : List MV} {m : Nat} {v : MV} (h : Lw C px cs m v) {j : Nat} {x : MV} (hx : cs[j]? = some x) : loadV P t (ixz v j 1) C = some x := by
  obtain ⟨h1, h2, c, rfl, h3⟩ := h
  simp only [ixz, loadV, hk, ha, if_true, Bool.false_eq_true, if_false, h2, Option.bind_some, Nat.mul_one, Nat.zero_add]
  exact hx
theorem Lw.set {C : MH} {px : Nat} {cs : List MV} {m : Nat} {v : MV} (h : Lw C px cs m v) {q : Nat} (hq : q ≠ px) (o : Option MO) : Lw (C.set q o) px cs m v := ⟨h.1, (hget_set_ne hq _).trans h.2.1, h.2.2⟩
theorem app_lw {P : Program} {Q : MQ} {C : MH} {px : Nat} {cs : List MV} {m : Nat} {v : MV} (hx : Lw C px cs m v) {t : TypeId} {eb : Nat} {zs : List Value} {b : Bool} (ht : (ty P t).k = .slice 1 eb (some zs) b)
    (hz : 0 < eb ∧ zs.length = 1 ∧ eb ≤ 2 ^ 10) {x : MV} {new : List MV} {k0 : Nat} (htl : tailV 1 x C = some (new, k0)) (hone : new.all one = true) (hm : m + k0 ≤ 10000000) {n1 : Nat} (hn1 : n1 = C.length)
    {d L l F k ρ} (h : ∀ c, m + k0 ≤ c → held P L (C.set px none ++ [some ⟨cs ++ new, true⟩]) F ∧ W P Q (.run l F :: k) (put ρ d (.slice C.length 0 (m + k0) c 1)) (C.set px none ++ [some ⟨cs ++ new, true⟩])) :
    AppK P Q (appV P #[t, t] v x C) n1 d L l F k ρ := by
  subst hn1
  obtain ⟨h1, h2, c, rfl, h3⟩ := hx
  have : appV P #[t, t] (.slice px 0 m c 1) x C = some (some (cs ++ new, m + k0, 1), C.set px none ++ [some ⟨cs ++ new, true⟩]) := by
    refine appV_of ?_
    unfold appV0
    simp only [List.getElem?_toArray, List.getElem?_cons_zero, List.getElem?_cons_succ, ht, htl]
    simp [hz, hone, h2, h1, show m + k0 ≤ 68719476736 by omega]
  rw [this]
  simp only [AppK]
  intro c hc
  exact h c hc
theorem wones (n0 : Int) {v : MV} {xs : List Int} {w : MV} {ws : List Bool} {H : MH} (hv : Sl H v xs) (hI : InD xs) (hw : SlB H w ws) :
    Spec Tryz.prog 4 [i64 n0, v, w] H fun u H' => u = bl true ∧ H' = H := by
  have hlen22 := len22 hv
  have hlen35 := lenB hw
  have hbs0 : bsV (.slice 1 8 (some [.int .u64 0]) true) 0 [] = some ([], 1) := rfl
  have hbs1 : ∀ x : Int, bsV (.slice 1 8 (some [.int .u64 0]) true) 1 [(0, u64 x)] = some ([u64 x], 1) := fun x => rfl
  have h7 := and7 n0
  refine Spec.scalar (enterS Tryz.func4 [.tmp 6] ?_)
  repeat' first | (with_reducible (show W _ _ _ _ _); with_reducible refine go2 ?_) | (with_reducible (show W _ _ _ _ _); with_reducible refine sg2 ?_ ?_ <;> intro _) | (with_reducible (show CallK _ _ _ _ _ _ _ _ _ _ _); with_reducible refine ce2 (head22_spec _) ?_) | (with_reducible (show W _ _ (.code (.region 9 _ true) :: _) _ _); with_reducible refine W_draw [(0, []), (1, []), (3, []), (10, []), (11, []), (2, [0, 10, 11]), (4, [10, 11]), (5, []), (6, []), (7, []), (8, []), (9, []), (12, []), (13, []), (14, []), (15, [])] [0, 10, 11] (by kernel_rfl) ?_)
  rename_i hl
  refine sc2 ?_ ?_ <;> intro hl2
  · repeat' first | (with_reducible (show W _ _ _ _ _); with_reducible refine go2 ?_) | (with_reducible (show W _ _ _ _ _); with_reducible refine sg2 ?_ ?_ <;> intro _) | (with_reducible (show W _ _ _ _ _); with_reducible refine sc2 ?_ ?_ <;> intro _) | (with_reducible (show W _ _ (.code (.region 9 _ true) :: _) _ _); with_reducible refine W_draw [(0, []), (1, []), (3, []), (10, []), (11, []), (2, [0, 10, 11]), (4, [10, 11]), (5, []), (6, []), (7, []), (8, []), (9, []), (12, []), (13, []), (14, []), (15, [])] [0, 10, 11] (by kernel_rfl) ?_)
    all_goals trivial
  repeat' first | (with_reducible (show W _ _ _ _ _); with_reducible refine go2 ?_) | (with_reducible (show W _ _ _ _ _); with_reducible refine sg2 ?_ ?_ <;> intro _) | (with_reducible (show W _ _ (.code (.region 9 _ true) :: _) _ _); with_reducible refine W_draw [(0, []), (1, []), (3, []), (10, []), (11, []), (2, [0, 10, 11]), (4, [10, 11]), (5, []), (6, []), (7, []), (8, []), (9, []), (12, []), (13, []), (14, []), (15, [])] [0, 10, 11] (by kernel_rfl) ?_)
  generalize bits .and .i64 n0 7 = r at h7
  obtain ⟨r, rfl⟩ := Int.eq_ofNat_of_zero_le h7.1
  have hr7 : r ≤ 7 := by omega
  obtain ⟨N, hN⟩ : ∃ N, r * r = N := ⟨_, rfl⟩
  (with_reducible (show CallK _ _ _ _ _ _ _ _ _ _ _)); with_reducible refine cx2 (upper0_spec r hr7 hv hI hN) ?_
  rintro u' C ⟨E, ⟨hE, hEI, hT⟩, rfl, rfl⟩
  have hNN : ((r : Int) * r).toNat = N := by rw [← hN]; exact_mod_cast Int.toNat_natCast (r * r)
  have hEl : E.length = N := by rw [hE.len, hNN]
  have hN49 : N ≤ 49 := by rw [← hN]; exact Nat.mul_le_mul hr7 hr7
  have hE0 : ∀ L : MH, hget (H ++ some ⟨E.map u64, true⟩ :: L) H.length = some ⟨E.map u64, true⟩ := fun L => hget_new'
  repeat' first | (with_reducible (show W _ _ _ _ _); with_reducible refine go2 ?_) | (with_reducible (show W _ _ _ _ _); with_reducible refine sg2 ?_ ?_ <;> intro _) | (with_reducible (show W _ _ (.code (.region 9 _ true) :: _) _ _); with_reducible refine W_draw [(0, []), (1, []), (3, []), (10, []), (11, []), (2, [0, 10, 11]), (4, [10, 11]), (5, []), (6, []), (7, []), (8, []), (9, []), (12, []), (13, []), (14, []), (15, [])] [0, 10, 11] (by kernel_rfl) ?_)
  (with_reducible (show CallK _ _ _ _ _ _ _ _ _ _ _)); with_reducible refine ck2 (refused_spec hE hEI hEl (by omega) (hE0 _)) ?_
  intro e he
  repeat' first | (with_reducible (show W _ _ _ _ _); with_reducible refine go2 ?_) | (with_reducible (show W _ _ _ _ _); with_reducible refine sg2 ?_ ?_ <;> intro _) | (with_reducible (show W _ _ (.code (.region 9 _ true) :: _) _ _); with_reducible refine W_draw [(0, []), (1, []), (3, []), (10, []), (11, []), (2, [0, 10, 11]), (4, [10, 11]), (5, []), (6, []), (7, []), (8, []), (9, []), (12, []), (13, []), (14, []), (15, [])] [0, 10, 11] (by kernel_rfl) ?_)
  rename_i he0
  refine sc2 ?_ ?_ <;> intro hlW
  · repeat' first | (with_reducible (show W _ _ _ _ _); with_reducible refine go2 ?_) | (with_reducible (show W _ _ _ _ _); with_reducible refine sg2 ?_ ?_ <;> intro _) | (with_reducible (show W _ _ _ _ _); with_reducible refine sc2 ?_ ?_ <;> intro _) | (with_reducible (show W _ _ (.code (.region 9 _ true) :: _) _ _); with_reducible refine W_draw [(0, []), (1, []), (3, []), (10, []), (11, []), (2, [0, 10, 11]), (4, [10, 11]), (5, []), (6, []), (7, []), (8, []), (9, []), (12, []), (13, []), (14, []), (15, [])] [0, 10, 11] (by kernel_rfl) ?_)
    all_goals trivial
  have hW : ws.length = r := by omega
  clear hlW
  obtain ⟨hQ, hfE, hfar⟩ := he (by simpa using he0)
  clear he he0
  have hn0 : 0 ≤ (r : Int) ∧ (r : Int) ≤ 4096 := by omega
  have hO0 := oneM_ok hn0
  have hone0 : ∀ H, Spec Tryz.prog 10 [i64 (r : Int)] H fun v H' => v = mx r r r H.length N N ∧ H' = H ++ [some ⟨(oneM (r : Int)).map u64, true⟩] := fun H => by have := one_spec hn0 H; rw [hNN] at this; exact this
  have hb1 := one_bd ⟨r, by omega⟩
  have hBd : Bd E (oneM (r : Int)) := bd_of hfar hb1.2.1
  have tg : Tg (r : Int) E 101 := ⟨hE, far_all hEI hfE hfar, hT⟩
  have hsel : ∀ (L : MH) (q : Nat), hget (H ++ L) H.length = some ⟨E.map u64, true⟩ → hget (H ++ L) q = some ⟨(oneM (r : Int)).map u64, true⟩ → _ := fun L q h1 h2 => sel_ones hr7 tg (z := N) (y := N) hNN h1 hO0 h2 hb1.1 hBd (hw.app L) hW
  repeat' first | (with_reducible (show W _ _ _ _ _); with_reducible refine go2 ?_) | (with_reducible (show W _ _ _ _ _); with_reducible refine sg2 ?_ ?_ <;> intro _) | (with_reducible (show W _ _ (.code (.region 9 _ true) :: _) _ _); with_reducible refine W_draw [(0, []), (1, []), (3, []), (10, []), (11, []), (2, [0, 10, 11]), (4, [10, 11]), (5, []), (6, []), (7, []), (8, []), (9, []), (12, []), (13, []), (14, []), (15, [])] [0, 10, 11] (by kernel_rfl) ?_) | ((with_reducible (show CallK _ _ _ _ _ _ _ _ _ _ _); first | (with_reducible refine cm2 (hone0 _) ?_)))
  (with_reducible (show CallK _ _ _ _ _ _ _ _ _ _ _)); with_reducible refine cm2 (hsel _ _ ?_ ?_) ?_
  · exact hget_new'
  · exact hget_newL rfl
  have hG : Gq (r : Int) E 0 := ⟨101, by omega, by omega, tg⟩
  obtain ⟨hdg, hfr⟩ := dgl_sl (n := (r : Int)) (by omega) (ws := ws) hG hO0 r (by omega)
  obtain ⟨⟨⟨k0, _, _, tgX⟩, _⟩, _⟩ := sl_gd (n := (r : Int)) (by omega) (ws := ws) hG hO0 r (by omega)
  rw [List.drop_eq_nil_of_le (by rw [dgl_len]; omega), List.append_nil] at hdg
  rw [hfr]
  clear hfr hsel hone0
  generalize (slS (r : Int) ws E (oneM (r : Int)) r).1.2 = Z
  generalize (slS (r : Int) ws E (oneM (r : Int)) r).1.1 = X at hdg tgX ⊢
  repeat' first | (with_reducible (show W _ _ _ _ _); with_reducible refine go2 ?_) | (with_reducible (show W _ _ _ _ _); with_reducible refine sg2 ?_ ?_ <;> intro _) | (with_reducible (show W _ _ (.code (.region 9 _ true) :: _) _ _); with_reducible refine W_draw [(0, []), (1, []), (3, []), (10, []), (11, []), (2, [0, 10, 11]), (4, [10, 11]), (5, []), (6, []), (7, []), (8, []), (9, []), (12, []), (13, []), (14, []), (15, [])] [0, 10, 11] (by kernel_rfl) ?_)
  obtain ⟨l, hle⟩ : ∃ l, dgl (r : Int) E = l := ⟨_, rfl⟩
  have hgl : ∀ k : Nat, (k : Int) < r → atM r r r E k k = l.getD k 0 := fun k hk => by
    rw [← hle, List.getD_eq_getElem?_getD, dgl_get E hk]; rfl
  rw [hle] at hdg
  rw [hle]
  have hXl : X.length = N := by rw [tgX.ok.len, hNN]
  have hgx : ∀ k : Nat, (k : Int) < r → (fstL ws l r ++ rstL ws l r)[k]? = some (atM r r r X k k) := fun k hk => by
    rw [← hdg, dgl_get X hk]
  have hfl := fr_len ws l
  have hty : (ty Tryz.prog 22).k = .slice 1 8 (some [.int .u64 0]) true := by rw [ty_22]
  have hsum : (fstL ws l r ++ rstL ws l r).length = r := by rw [List.length_append]; exact hfl r
  clear hdg hle hE0
  refine W_for (fun j ρ C => ∃ (k px py : Nat) (v1 v2 : MV), k + j = r ∧ ρ 0 = i64 (r : Int) ∧ ρ 2 = w ∧ ρ 7 = .ptr (H.length + 1) 0 ∧ ρ 8 = .ptr (H.length + 2) 0 ∧ ρ 10 = i64 ((fstL ws l r).length : Int) ∧ ρ 11 = i64 0 ∧ ρ 12 = v1 ∧ ρ 13 = v2 ∧ ρ 14 = i64 (k : Int) ∧
    Old H C ∧ hget C H.length = some ⟨E.map u64, true⟩ ∧ hget C (H.length + 1) = some ⟨[i64 r, i64 r, i64 r, .slice H.length 0 N N 1], true⟩ ∧ hget C (H.length + 2) = some ⟨[i64 r, i64 r, i64 r, .slice (H.length + 5) 0 N N 1], true⟩ ∧ hget C (H.length + 5) = some ⟨X.map u64, true⟩ ∧
    H.length + 7 ≤ px ∧ H.length + 7 ≤ py ∧ px ≠ py ∧ Lw C px ((fstL ws l k).map u64) (fstL ws l k).length v1 ∧ Lw C py ((rstL ws l k).map u64) (rstL ws l k).length v2) r ?_ ?_
  · exact ⟨0, H.length + 7, H.length + 8, _, _, by omega, rfl, rfl, rfl, rfl, rfl, rfl, rfl, rfl, rfl, (Old.refl H).app _, hget_new', hget_newL rfl, hget_newL rfl, hget_newL rfl, by omega, by omega, by omega, ⟨rfl, hget_newL rfl, 0, rfl, Nat.le_refl _⟩, ⟨rfl, hget_newL rfl, 0, rfl, Nat.le_refl _⟩⟩
  rintro j ρ C ⟨k, px, py, v1, v2, hk, h0, h2, h7, h8, h10, h11, h12, h13, h14, hO, c1, c2, c3, c4, hpx, hpy, hpq, hL1, hL2⟩
  have hflk := hfl k
  have hpl := lt_of_hget hL1.2.1
  have hql := lt_of_hget hL2.2.1
  by_cases hkr : (k : Int) < (r : Int)
  · have hkr2 : ((k : Int) < (r : Int)) = True := eq_true hkr
    have hwC := hO.slB hw
    have hib := hwC.ia (j := k) (by omega) 1 (some [.bool false]) false .i64
    have hlb := hwC.ld (P := Tryz.prog) (t := 4) (by rw [ty_4]) (by rw [ty_4]) (j := k) (by omega)
    have hd := hgl k hkr
    have ek : IntKind.i64.wrap ((k : Int) + 1) = ((k + 1 : Nat) : Int) := by rw [wrap_i64 (by omega)]; omega
    have hstF : Hid2 (fstL ws l (k + 1) = if ws.getD k false = true then fstL ws l k ++ [l.getD k 0] else fstL ws l k) := rfl
    have hstR : Hid2 (rstL ws l (k + 1) = if ws.getD k false = true then rstL ws l k else rstL ws l k ++ [l.getD k 0]) := rfl
    have hA1 := hL1.app [some ⟨[u64 (l.getD k 0)], true⟩]
    have hA2 := hL2.app [some ⟨[u64 (l.getD k 0)], true⟩]
    have hnw : tailV 1 (.slice C.length 0 1 1 1) (C ++ [some ⟨[u64 (l.getD k 0)], true⟩]) = some ([u64 (l.getD k 0)], 1) := by
      simp only [tailV, if_true, cellsAt_eq, hget_append_new]
      simp
    cases hwk : ws.getD k false with
    | true =>
      rw [hwk] at hlb hstF hstR
      repeat' first | (with_reducible (show W _ _ _ _ _); with_reducible refine go2 ?_) | (with_reducible (show W _ _ _ _ _); with_reducible refine sg2 ?_ ?_ <;> intro _) | (with_reducible (show W _ _ _ _ _); with_reducible refine sc2 ?_ ?_ <;> intro _) | (with_reducible (show CallK _ _ _ _ _ _ _ _ _ _ _); with_reducible refine ce2 (at_ok hE _ _ c1 hEl) ?_) | (with_reducible (show W _ _ (.code (.region 9 _ true) :: _) _ _); with_reducible refine W_draw [(0, []), (1, []), (3, []), (10, []), (11, []), (2, [0, 10, 11]), (4, [10, 11]), (5, []), (6, []), (7, []), (8, []), (9, []), (12, []), (13, []), (14, []), (15, [])] [0, 10, 11] (by kernel_rfl) ?_) | ((with_reducible (show AppK _ _ _ _ _ _ _ _ _ _); with_reducible refine app_lw hA1 hty ⟨by decide, rfl, by decide⟩ hnw rfl (by omega) (by simp) ?_; intro c hc; refine ⟨held_none _ _ _, ?_⟩))
      have hl : (C.set px none).length = C.length := List.length_set ..
      have hF : fstL ws l (k + 1) = _ := hstF
      have hR : rstL ws l (k + 1) = _ := hstR
      rw [if_pos rfl] at hF hR
      exact ⟨j - 1, by omega, k + 1, C.length + 1, py, _, _, by omega, rfl, rfl, rfl, (hO.setq none (by omega)).app _, hget_appL ((hget_set_ne (by omega) _).trans c1), hget_appL ((hget_set_ne (by omega) _).trans c2), hget_appL ((hget_set_ne (by omega) _).trans c3), hget_appL ((hget_set_ne (by omega) _).trans c4), by omega, hpy, by omega, ⟨by rw [hF]; simp, by rw [hF, List.map_append]; exact hget_newL hl, c, by rw [hF, List.length_append]; rfl, by rw [hF, List.length_append]; exact hc⟩, (by rw [hR]; exact ((hL2.set (by omega) none).app _))⟩
    | false =>
      rw [hwk] at hlb hstF hstR
      repeat' first | (with_reducible (show W _ _ _ _ _); with_reducible refine go2 ?_) | (with_reducible (show W _ _ _ _ _); with_reducible refine sg2 ?_ ?_ <;> intro _) | (with_reducible (show W _ _ _ _ _); with_reducible refine sc2 ?_ ?_ <;> intro _) | (with_reducible (show CallK _ _ _ _ _ _ _ _ _ _ _); with_reducible refine ce2 (at_ok hE _ _ c1 hEl) ?_) | (with_reducible (show W _ _ (.code (.region 9 _ true) :: _) _ _); with_reducible refine W_draw [(0, []), (1, []), (3, []), (10, []), (11, []), (2, [0, 10, 11]), (4, [10, 11]), (5, []), (6, []), (7, []), (8, []), (9, []), (12, []), (13, []), (14, []), (15, [])] [0, 10, 11] (by kernel_rfl) ?_) | ((with_reducible (show AppK _ _ _ _ _ _ _ _ _ _); with_reducible refine app_lw hA2 hty ⟨by decide, rfl, by decide⟩ hnw rfl (by omega) (by simp) ?_; intro c hc; refine ⟨held_none _ _ _, ?_⟩))
      have hl : (C.set py none).length = C.length := List.length_set ..
      have hF : fstL ws l (k + 1) = _ := hstF
      have hR : rstL ws l (k + 1) = _ := hstR
      rw [if_neg (by decide)] at hF hR
      exact ⟨j - 1, by omega, k + 1, px, C.length + 1, _, _, by omega, rfl, rfl, rfl, (hO.setq none (by omega)).app _, hget_appL ((hget_set_ne (by omega) _).trans c1), hget_appL ((hget_set_ne (by omega) _).trans c2), hget_appL ((hget_set_ne (by omega) _).trans c3), hget_appL ((hget_set_ne (by omega) _).trans c4), hpx, by omega, by omega, (by rw [hF]; exact ((hL1.set (by omega) none).app _)), ⟨by rw [hR]; simp, by rw [hR, List.map_append]; exact hget_newL hl, c, by rw [hR, List.length_append]; rfl, by rw [hR, List.length_append]; exact hc⟩⟩
  · have hkr2 : ((k : Int) < (r : Int)) = False := eq_false hkr
    obtain rfl : k = r := by omega
    have hlv1 := hL1.len
    have hE1 : Lw (C ++ [some ⟨[], true⟩]) C.length [] 0 (.slice C.length 0 0 0 1) := ⟨rfl, hget_append_new, 0, rfl, Nat.le_refl _⟩
    have ht1 := (hL1.app [some ⟨[], true⟩]).tail
    have ho1 : ((fstL ws l k).map u64).all one = true := by simp [one]
    have ho2 : ((rstL ws l k).map u64).all one = true := by simp [one]
    repeat' first | (with_reducible (show W _ _ _ _ _); with_reducible refine go2 ?_) | (with_reducible (show W _ _ _ _ _); with_reducible refine sg2 ?_ ?_ <;> intro _) | (with_reducible (show W _ _ (.code (.region 9 _ true) :: _) _ _); with_reducible refine W_draw [(0, []), (1, []), (3, []), (10, []), (11, []), (2, [0, 10, 11]), (4, [10, 11]), (5, []), (6, []), (7, []), (8, []), (9, []), (12, []), (13, []), (14, []), (15, [])] [0, 10, 11] (by kernel_rfl) ?_) | ((with_reducible (show AppK _ _ _ _ _ _ _ _ _ _); with_reducible refine app_lw hE1 hty ⟨by decide, rfl, by decide⟩ ht1 ho1 (by omega) (by simp) ?_; intro c hc; refine ⟨held_none _ _ _, ?_⟩))
    have hc3 : (fstL ws l k).length + (rstL ws l k).length = k := hfl k
    have hE2 : Lw (C ++ [none, some (MO.mk ((fstL ws l k).map u64) true)]) (C.length + 1) ((fstL ws l k).map u64) (fstL ws l k).length (.slice (C.length + 1) 0 (fstL ws l k).length c 1) := ⟨by simp, hget_newL rfl, c, rfl, by omega⟩
    (with_reducible (show AppK _ _ _ _ _ _ _ _ _ _)); with_reducible refine app_lw hE2 hty ⟨by decide, rfl, by decide⟩ ((hL2.app _).tail) ho2 (by omega) (by simp) ?_
    intro c' hc'
    refine ⟨held_none _ _ _, ?_⟩
    rw [hc3] at hc' ⊢
    refine W_memQ (fun C3 => Old H C3 ∧ hget C3 H.length = some ⟨E.map u64, true⟩ ∧ hget C3 (H.length + 1) = some ⟨[i64 k, i64 k, i64 k, .slice H.length 0 N N 1], true⟩ ∧ hget C3 (H.length + 2) = some ⟨[i64 k, i64 k, i64 k, .slice (H.length + 5) 0 N N 1], true⟩ ∧ hget C3 (H.length + 5) = some ⟨X.map u64, true⟩ ∧
      Lw C3 (C.length + 2) ((fstL ws l k ++ rstL ws l k).map u64) k (.slice (C ++ [none, some (MO.mk ((fstL ws l k).map u64) true)]).length 0 k c' 1)) ?_ ?_
    · have hl1 : ((C ++ [none, some (MO.mk ((fstL ws l k).map u64) true)]).set (C.length + 1) none).length = C.length + 2 := by simp
      have hs : ∀ q o, q < C.length → hget C q = some o → hget ((C ++ [none, some (MO.mk ((fstL ws l k).map u64) true)]).set (C.length + 1) none ++ [some (MO.mk ((fstL ws l k).map u64 ++ (rstL ws l k).map u64) true)]) q = some o := fun q o hq h => hget_appL ((hget_set_ne (by omega) _).trans (hget_appL h))
      refine ⟨((hO.app _).setq none (by omega)).app _, hs _ _ (by omega) c1, hs _ _ (by omega) c2, hs _ _ (by omega) c3, hs _ _ (by omega) c4, by rw [List.length_map]; exact hsum, ?_, c', by rw [List.length_append]; rfl, hc'⟩
      rw [List.map_append]
      exact hget_newL' hl1
    rintro C3 ⟨hO3, e1, e2, e3, e4, hL3⟩
    obtain ⟨V, hV⟩ : ∃ V, MV.slice (C ++ [none, some (MO.mk ((fstL ws l k).map u64) true)]).length 0 k c' 1 = V := ⟨_, rfl⟩
    rw [hV] at hL3 ⊢
    have hlV := hL3.len
    repeat' first | (with_reducible (show W _ _ _ _ _); with_reducible refine go2 ?_) | (with_reducible (show W _ _ _ _ _); with_reducible refine sg2 ?_ ?_ <;> intro _) | (with_reducible (show W _ _ (.code (.region 9 _ true) :: _) _ _); with_reducible refine W_draw [(0, []), (1, []), (3, []), (10, []), (11, []), (2, [0, 10, 11]), (4, [10, 11]), (5, []), (6, []), (7, []), (8, []), (9, []), (12, []), (13, []), (14, []), (15, [])] [0, 10, 11] (by kernel_rfl) ?_)
    refine W_for (fun j ρ C4 => ∃ i : Nat, i + j = k ∧ ρ 8 = .ptr (H.length + 2) 0 ∧ ρ 88 = V ∧ ρ 89 = i64 (k : Int) ∧ ρ 90 = i64 (i : Int) ∧ C4 = C3) k ?_ ?_
    · exact ⟨0, by omega, h8, rfl, rfl, rfl, rfl⟩
    clear h0 h2 h8 h10 h11 h12 h13 h14
    rintro j' ρ' C4 ⟨i, hi, h8, h88, h89, h90, rfl⟩
    by_cases hik : (i : Int) < (k : Int)
    · have hik2 : ((i : Int) < (k : Int)) = True := eq_true hik
      have hgi := hgx i hik
      have hia := hL3.ia (j := i) (by omega) 8 (some [.int .u64 0]) true .i64
      have hld := hL3.ld (P := Tryz.prog) (t := 27) (by rw [ty_27]) (by rw [ty_27]) (j := i) (x := u64 (atM k k k X i i)) (by rw [List.getElem?_map, hgi]; rfl)
      have ek : IntKind.i64.wrap ((i : Int) + 1) = ((i + 1 : Nat) : Int) := by rw [wrap_i64 (by omega)]; omega
      clear hgi
      repeat' first | (with_reducible (show W _ _ _ _ _); with_reducible refine go2 ?_) | (with_reducible (show W _ _ _ _ _); with_reducible refine sg2 ?_ ?_ <;> intro _) | (with_reducible (show W _ _ _ _ _); with_reducible refine sc2 ?_ ?_ <;> intro _) | (with_reducible (show CallK _ _ _ _ _ _ _ _ _ _ _); with_reducible refine ce2 (at_ok tgX.ok _ _ e4 hXl) ?_) | (with_reducible (show W _ _ (.code (.region 9 _ true) :: _) _ _); with_reducible refine W_draw [(0, []), (1, []), (3, []), (10, []), (11, []), (2, [0, 10, 11]), (4, [10, 11]), (5, []), (6, []), (7, []), (8, []), (9, []), (12, []), (13, []), (14, []), (15, [])] [0, 10, 11] (by kernel_rfl) ?_)
      all_goals exact ⟨j' - 1, by omega, i + 1, by omega, rfl⟩
    · have hik2 : ((i : Int) < (k : Int)) = False := eq_false hik
      obtain ⟨J4, hJ4⟩ := hO3.ex
      have hJ5 : Hid2 (C4 = H ++ J4) := hJ4
      clear hJ4
      repeat' first | (with_reducible (show W _ _ _ _ _); with_reducible refine go2 ?_) | (with_reducible (show W _ _ _ _ _); with_reducible refine sg2 ?_ ?_ <;> intro _) | (with_reducible (show W _ _ _ _ _); with_reducible refine sc2 ?_ ?_ <;> intro _) | (with_reducible (show W _ _ (.code (.region 9 _ true) :: _) _ _); with_reducible refine W_draw [(0, []), (1, []), (3, []), (10, []), (11, []), (2, [0, 10, 11]), (4, [10, 11]), (5, []), (6, []), (7, []), (8, []), (9, []), (12, []), (13, []), (14, []), (15, [])] [0, 10, 11] (by kernel_rfl) ?_)
      exact ⟨_, hJ5⟩
  all_goals trivial
end Go.Proofs.YtdbngjlhcjjhbaaGreatDoor.M
