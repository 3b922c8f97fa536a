/- Exact sums of products; a list reflected; two lists near each other. -/
import Derived.Test.YtcikcinkjbbnhaaDoorD12
import Derived.Test.YtcikcinkjbbnhaaDoorZ1
set_option linter.unusedSimpArgs false
set_option linter.unusedVariables false
set_option pp.deepTerms false
set_option pp.maxSteps 1500
set_option maxRecDepth 10000
set_option maxHeartbeats 4000000
namespace Go.Proofs.YtcikcinkjbbnhaaDoor.M
open Go Go.Proofs

def dotR (a b : List Rat) (n : Nat) : Rat := sm (fun i => a.getD i 0 * b.getD i 0) n
theorem Num.nls {C : MH} {s sl e q K} (h : Num C s sl e q K) : M.one sl = true := h.one

theorem exact13 {b : Int} (hb : InU b) (H : MH) : Spec Tryd.prog 12 [u64 b] H fun u H' => NumR H H' u (vx b) 1100 := by
  refine enterS Tryd.func12 [.cell 2 34] ?_
  repeat' first | (with_reducible (show W _ _ _ _ _); with_reducible refine go2 ?_) | (with_reducible (show W _ _ _ _ _); with_reducible refine sg2 ?_ ?_ <;> intro _)
  (with_reducible (show CallK _ _ _ _ _ _ _ _ _ _ _)); with_reducible refine cx2 (of_num hb _) ?_
  rintro u C ⟨u1, rfl, hC, s, sl, e, rfl, hN⟩
  have ho := hN.one
  have c0 := hC.getO (hget_new' (H := H))
  have hl0 := lt_of_hget c0
  have hl1 : H.length < C.length + 1 := by omega
  repeat' first | (with_reducible (show W _ _ _ _ _); with_reducible refine go2 ?_) | (with_reducible (show W _ _ _ _ _); with_reducible refine sg2 ?_ ?_ <;> intro _) | (with_reducible (show W _ _ _ _ _); with_reducible refine sc2 ?_ ?_ <;> intro _)
  have hO2 : Old H C := ((Old.refl H).app _).trans hC
  exact ⟨(hO2.setq _ (Nat.le_refl _)).app _, s, sl, e, rfl, (hN.setz c0 _).old ((Old.refl _).app _)⟩
theorem dot13 {H : MH} {u v : MV} {xs ys : List Rat} {K L : Int} (hu : Nl [] H u xs K) (hv : Nl [] H v ys L) (hl : xs.length ≤ ys.length) (hn : xs.length ≤ 1000) (hK : 0 ≤ K ∧ K ≤ 100000000) (hL : 0 ≤ L ∧ L ≤ 100000000) :
    Spec Tryd.prog 15 [u, v] H fun r H' => NumR H H' r (dotR xs ys xs.length) (K + L + 1000) := by
  obtain ⟨pa, ca, cella, rfl, hca, hpa, hla, hna, _, hea⟩ := id hu
  obtain ⟨pb, cb, cellb, rfl, hcb, hpb, hlb, hnb, _, heb⟩ := id hv
  obtain ⟨n, hne⟩ : ∃ n, xs.length = n := ⟨_, rfl⟩
  obtain ⟨nb, hnbe⟩ : ∃ nb, ys.length = nb := ⟨_, rfl⟩
  rw [hne] at hca hla hea hn
  rw [hnbe] at hcb hlb heb
  rw [hne, hnbe] at hl
  rw [hne, hnbe]
  have f3 : ∀ m : Nat, (0 ≤ (m : Int)) = True := fun m => eq_true (by omega)
  have f5 : ∀ m : Nat, (m : Int).toNat = m := fun m => Int.toNat_natCast m
  refine enterS Tryd.func15 [.cell 4 34] ?_
  repeat' first | (with_reducible (show W _ _ _ _ _); with_reducible refine go2 ?_) | (with_reducible (show W _ _ _ _ _); with_reducible refine sg2 ?_ ?_ <;> intro _) | (with_reducible (show W _ _ (.code (.region 5 _ true) :: _) _ _); with_reducible refine W_draw [(0, []), (1, []), (2, []), (3, []), (4, []), (5, []), (6, []), (7, []), (8, []), (9, [0]), (10, []), (11, [])] [0] (by kernel_rfl) ?_)
  refine W_for (fun j ρ C => ∃ (k : Nat) (s : Bool) (sl : MV) (e : Int), k + j = n ∧ Num C s sl e (dotR xs ys k) (K + L + k) ∧ hget C (H.length + 1) = some ⟨[bl s, sl, i64 e], true⟩ ∧ hget C H.length = some ⟨[bl false, .lit (.slice none 0 0), i64 0], true⟩ ∧ Old H C ∧ ρ 0 = .slice pa 0 n ca 3 ∧ ρ 1 = .slice pb 0 nb cb 3 ∧ ρ 4 = .ptr H.length 0 ∧ ρ 5 = .ptr (H.length + 1) 0 ∧ ρ 9 = i64 (n : Int) ∧ ρ 10 = i64 (k : Int)) n ?_ ?_
  · exact ⟨0, false, _, 0, by omega, Num.zero _ _, hget_newL rfl, hget_new', (Old.refl H).app _, rfl, rfl, rfl, rfl, rfl, rfl⟩
  rintro j ρ C ⟨k, s, sl, e, hk, hN, c1, c0, hC, h0, h1, h4, h5, h9, h10⟩
  have ho := hN.one
  by_cases hlt : (k : Int) < n
  · have e1 : IntKind.i64.wrap ((k : Int) + 1) = ((k + 1 : Nat) : Int) := by rw [wrap_i64 (by omega)]; omega
    obtain ⟨s1, l1, e1', hd1, hN1⟩ := hea k (by omega)
    obtain ⟨s2, l2, e2', hd2, hN2⟩ := heb k (by omega)
    have hpaC := hC.getO hpa
    have hpbC := hC.getO hpb
    have f7 : (k * 3 + 3 ≤ n * 3) = True := eq_true (by omega)
    have f8 : (k * 3 + 3 ≤ nb * 3) = True := eq_true (by omega)
    have f9 : ((k : Int) < (nb : Int)) = True := eq_true (by omega)
    repeat' first | (with_reducible (show W _ _ _ _ _); with_reducible refine go2 ?_) | (with_reducible (show W _ _ _ _ _); with_reducible refine sg2 ?_ ?_ <;> intro _) | (with_reducible (show W _ _ (.code (.region 5 _ true) :: _) _ _); with_reducible refine W_draw [(0, []), (1, []), (2, []), (3, []), (4, []), (5, []), (6, []), (7, []), (8, []), (9, [0]), (10, []), (11, [])] [0] (by kernel_rfl) ?_)
    (with_reducible (show CallK _ _ _ _ _ _ _ _ _ _ _)); with_reducible refine cxh (mul_num (hN1.old hC) (hN2.old hC) ⟨by omega, by omega⟩ ⟨by omega, by omega⟩) ?_
    rintro u C2 ⟨hC2, s3, l3, e3, rfl, hN3⟩
    have c1' := hC2.getO c1
    have c0' := hC2.getO c0
    refine ⟨by simp [held_cons, held_nil', sem_load, loadV_ptr, cellsAt_eq, ty_34, c1'], ?_⟩
    repeat' first | (with_reducible (show W _ _ _ _ _); with_reducible refine go2 ?_) | (with_reducible (show W _ _ _ _ _); with_reducible refine sg2 ?_ ?_ <;> intro _) | (with_reducible (show W _ _ (.code (.region 5 _ true) :: _) _ _); with_reducible refine W_draw [(0, []), (1, []), (2, []), (3, []), (4, []), (5, []), (6, []), (7, []), (8, []), (9, [0]), (10, []), (11, [])] [0] (by kernel_rfl) ?_)
    (with_reducible (show CallK _ _ _ _ _ _ _ _ _ _ _)); with_reducible refine cx2 (add_num (hN.old hC2) (hN3.mono (show K + L ≤ K + L + k by omega)) (by omega)) ?_
    rintro u C3 ⟨hC3, s4, l4, e4, rfl, hN4⟩
    have c1'' := hC3.getO c1'
    have c0'' := hC3.getO c0'
    have ho4 := hN4.one
    have hl3 := lt_of_hget c1''
    repeat' first | (with_reducible (show W _ _ _ _ _); with_reducible refine go2 ?_) | (with_reducible (show W _ _ _ _ _); with_reducible refine sg2 ?_ ?_ <;> intro _) | (with_reducible (show W _ _ _ _ _); with_reducible refine sc2 ?_ ?_ <;> intro _) | (with_reducible (show W _ _ (.code (.region 5 _ true) :: _) _ _); with_reducible refine W_draw [(0, []), (1, []), (2, []), (3, []), (4, []), (5, []), (6, []), (7, []), (8, []), (9, [0]), (10, []), (11, [])] [0] (by kernel_rfl) ?_)
    refine ⟨j - 1, by omega, k + 1, s4, l4, e4, by omega, ?_, rfl, (hget_set_ne (by omega) _).trans c0'', (hC.trans (hC2.trans hC3)).setq _ (by omega), rfl⟩
    have := hN4.setW c1'' hN.now (some ⟨[bl s4, l4, i64 e4], true⟩)
    rw [show K + L + ((k + 1 : Nat) : Int) = K + L + k + 1 by omega]
    exact this
  · have hkn : k = n := by omega
    have hl0 := lt_of_hget c0
    have hfin : dotR xs ys k = dotR xs ys n := by rw [hkn]
    rw [hfin] at hN
    clear hkn hfin
    repeat' first | (with_reducible (show W _ _ _ _ _); with_reducible refine go2 ?_) | (with_reducible (show W _ _ _ _ _); with_reducible refine sg2 ?_ ?_ <;> intro _) | (with_reducible (show W _ _ _ _ _); with_reducible refine sc2 ?_ ?_ <;> intro _) | (with_reducible (show W _ _ (.code (.region 5 _ true) :: _) _ _); with_reducible refine W_draw [(0, []), (1, []), (2, []), (3, []), (4, []), (5, []), (6, []), (7, []), (8, []), (9, [0]), (10, []), (11, [])] [0] (by kernel_rfl) ?_)
    exact ⟨hC.setq _ (Nat.le_refl _), s, sl, e, rfl, (hN.mono (by omega)).setz c0 _⟩
theorem bsV_num (s : Bool) (sl : MV) (e : Int) : bsV (.slice 3 40 (some [.bool false, .slice none 0 0, .int .i64 0]) false) 1 [(0, .agg [bl s, sl, i64 e])] = some ([bl s, sl, i64 e], 3) := by
  simp [bsV, fillM, cellsM]
  rfl
theorem bsV_num0 : bsV (.slice 3 40 (some [.bool false, .slice none 0 0, .int .i64 0]) false) 0 [] = some ([], 3) := rfl
theorem Nl.nil {H C : MH} {p c : Nat} (K : Int) (h : hget C p = some ⟨[], true⟩) (hp : H.length ≤ p) : Nl H C (.slice p 0 0 c 3) [] K := ⟨p, c, [], rfl, Nat.zero_le _, h, rfl, (fun x hx => by cases hx), hp, (fun i hi => by cases hi)⟩
theorem map_take_succ {xs : List Int} {k : Nat} (hk : k < xs.length) : (xs.take (k + 1)).map vx = (xs.take k).map vx ++ [vx (xs.getD k 0)] := by
  rw [take_snoc' hk, List.map_append]; rfl
theorem list13 {H : MH} {v : MV} {xs : List Int} (hv : Sl H v xs) (hI : InD xs) (hn : xs.length ≤ 1000) :
    Spec Tryd.prog 22 [v] H fun u H' => Old H H' ∧ Nl H H' u (xs.map vx) 1100 := by
  have hlen22 := fun C (hC : Sl C v xs) => len22 hC
  have hl := len22 hv
  have hb0 := bsV_num0
  have hb1 := bsV_num
  have hty : (ty Tryd.prog 31).k = .slice 3 40 (some [.bool false, .slice none 0 0, .int .i64 0]) false := by rw [ty_31]
  refine enterS Tryd.func22 [.tmp 2] ?_
  repeat' first | (with_reducible (show W _ _ _ _ _); with_reducible refine go2 ?_) | (with_reducible (show W _ _ _ _ _); with_reducible refine sg2 ?_ ?_ <;> intro _)
  refine W_for (fun j ρ C => ∃ k : Nat, k + j = xs.length ∧ Nl H C (ρ 3) ((xs.take k).map vx) 1100 ∧ Old H C ∧ ρ 7 = v ∧ ρ 8 = i64 (xs.length : Int) ∧ ρ 9 = i64 (k : Int)) xs.length ?_ ?_
  · exact ⟨0, by omega, Nl.nil _ hget_new' (Nat.le_refl _), (Old.refl H).app _, rfl, rfl, rfl⟩
  rintro j ρ C ⟨k, hk, hL, hC, h7, h8, h9⟩
  obtain ⟨u, hu⟩ : ∃ u, ρ 3 = u := ⟨_, rfl⟩
  rw [hu] at hL
  have f3 : ∀ m : Nat, (0 ≤ (m : Int)) = True := fun m => eq_true (by omega)
  have f5 : ∀ m : Nat, (m : Int).toNat = m := fun m => Int.toNat_natCast m
  have f6 : ∀ m : Nat, m * 1 = m := Nat.mul_one
  by_cases hlt : (k : Int) < xs.length
  · have e1 : IntKind.i64.wrap ((k : Int) + 1) = ((k + 1 : Nat) : Int) := by rw [wrap_i64 (by omega)]; omega
    rcases hv with ⟨rfl, _⟩ | ⟨p, o, c, ob, rfl, hp, hcell⟩
    · exfalso; simp at hlt; omega
    have f7 : ob.cells[o + k]? = some (u64 (xs.getD k 0)) := hcell k (by omega)
    have hpC := hC.getO hp
    have hin := getD_in hI k
    repeat' first | (with_reducible (show W _ _ _ _ _); with_reducible refine go2 ?_) | (with_reducible (show W _ _ _ _ _); with_reducible refine sg2 ?_ ?_ <;> intro _)
    (with_reducible (show CallK _ _ _ _ _ _ _ _ _ _ _)); with_reducible refine cx2 (exact13 hin _) ?_
    rintro w C2 ⟨hC2, s, sl, e, rfl, hN⟩
    have ho := hN.one
    repeat' first | (with_reducible (show W _ _ _ _ _); with_reducible refine go2 ?_) | (with_reducible (show W _ _ _ _ _); with_reducible refine sg2 ?_ ?_ <;> intro _)
    (with_reducible (show AppK _ _ _ _ _ _ _ _ _ _)); with_reducible refine app_nl (hC.trans hC2) (hL.old hC2) (by simp; omega) hty ⟨by decide, rfl, by decide⟩ hN rfl rfl rfl ?_
    intro v' C3 hC3 hL3 _
    refine ⟨held_none _ _ _, ?_⟩
    rw [← map_take_succ (by omega)] at hL3
    repeat' first | (with_reducible (show W _ _ _ _ _); with_reducible refine go2 ?_) | (with_reducible (show W _ _ _ _ _); with_reducible refine sg2 ?_ ?_ <;> intro _) | (with_reducible (show W _ _ _ _ _); with_reducible refine sc2 ?_ ?_ <;> intro _)
    first
      | exact ⟨j - 1, by omega, k + 1, by omega, hL3, hC3, rfl⟩
      | exact ⟨j - 1, by omega, k + 1, by omega, hL3, rfl⟩
      | trace_state
  · rw [List.take_of_length_le (by omega)] at hL
    repeat' first | (with_reducible (show W _ _ _ _ _); with_reducible refine go2 ?_) | (with_reducible (show W _ _ _ _ _); with_reducible refine sg2 ?_ ?_ <;> intro _) | (with_reducible (show W _ _ _ _ _); with_reducible refine sc2 ?_ ?_ <;> intro _)
    all_goals first | trivial | exact ⟨hC, hL⟩
/-- A list reflected, exactly. -/
def turnR (V : List Int) (tau : Int) (qs : List Rat) (k : Nat) : List Rat := (List.range k).map fun i => qs.getD i 0 - vx tau * dotR (V.map vx) qs V.length * vx (V.getD i 0)
theorem turnR_len (V : List Int) (tau : Int) (qs : List Rat) (k : Nat) : (turnR V tau qs k).length = k := by simp [turnR]
theorem turnR_succ (V : List Int) (tau : Int) (qs : List Rat) (k : Nat) : turnR V tau qs (k + 1) = turnR V tau qs k ++ [qs.getD k 0 - vx tau * dotR (V.map vx) qs V.length * vx (V.getD k 0)] := by
  simp [turnR, List.range_succ]
theorem map_vx_get {V : List Int} {k : Nat} (hk : k < V.length) : (V.map vx).getD k 0 = vx (V.getD k 0) := by
  simp [List.getD_eq_getElem?_getD, hk]
theorem turned13 {H : MH} {v x : MV} {V : List Int} {tau : Int} {qs : List Rat} {K : Int} (hv : Sl H v V) (hI : InD V) (ht : InU tau) (hx : Nl [] H x qs K) (hlen : qs.length = V.length) (hn : V.length ≤ 1000) (hK : 1100 ≤ K ∧ K ≤ 10000000) :
    Spec Tryd.prog 14 [.agg [v, u64 tau], x] H fun u H' => Old H H' ∧ Nl H H' u (turnR V tau qs V.length) (K + 5000) := by
  have hone : M.one v = true := by
    rcases hv with ⟨_, a, rfl⟩ | ⟨p, o, c, ob, rfl, _⟩ <;> rfl
  obtain ⟨px, cx, cellx, rfl, hcx, hpx, hlx, hnx, _, hex⟩ := id hx
  obtain ⟨n, hne⟩ : ∃ n, V.length = n := ⟨_, rfl⟩
  rw [hlen, hne] at hcx hlx hex
  have hqn : qs.length = n := hlen.trans hne
  rw [hqn]
  rw [hqn] at hx
  rw [hne] at hn ⊢
  have f3 : ∀ m : Nat, (0 ≤ (m : Int)) = True := fun m => eq_true (by omega)
  have f5 : ∀ m : Nat, (m : Int).toNat = m := fun m => Int.toNat_natCast m
  have hb0 := bsV_num0
  have hb1 := bsV_num
  have hty : (ty Tryd.prog 31).k = .slice 3 40 (some [.bool false, .slice none 0 0, .int .i64 0]) false := by rw [ty_31]
  refine enterS Tryd.func14 [.tmp 4] ?_
  repeat' first | (with_reducible (show W _ _ _ _ _); with_reducible refine go2 ?_) | (with_reducible (show W _ _ _ _ _); with_reducible refine sg2 ?_ ?_ <;> intro _) | (with_reducible (show W _ _ (.code (.region 7 _ true) :: _) _ _); with_reducible refine W_draw [(0, []), (1, []), (2, []), (3, []), (4, []), (5, []), (6, []), (7, []), (8, []), (9, []), (10, [4]), (11, []), (12, []), (13, []), (14, [])] [4] (by kernel_rfl) ?_)
  (with_reducible (show CallK _ _ _ _ _ _ _ _ _ _ _)); with_reducible refine cx2 (list13 (Sl.app hv _) hI (by omega)) ?_
  rintro w C ⟨hC, hLw⟩
  have c0 := hC.getO (hget_new' (H := H))
  obtain ⟨pw_, cw, cellw, rfl, hcw, hpw, hlw, hnw, _, hew⟩ := id hLw
  simp only [List.length_map] at hcw hlw hew
  rw [hne] at hcw hlw hew
  simp only [List.length_map, hne] at hLw ⊢
  repeat' first | (with_reducible (show W _ _ _ _ _); with_reducible refine go2 ?_) | (with_reducible (show W _ _ _ _ _); with_reducible refine sg2 ?_ ?_ <;> intro _) | (with_reducible (show W _ _ (.code (.region 7 _ true) :: _) _ _); with_reducible refine W_draw [(0, []), (1, []), (2, []), (3, []), (4, []), (5, []), (6, []), (7, []), (8, []), (9, []), (10, [4]), (11, []), (12, []), (13, []), (14, [])] [4] (by kernel_rfl) ?_)
  (with_reducible (show CallK _ _ _ _ _ _ _ _ _ _ _)); with_reducible refine cx2 (exact13 ht _) ?_
  rintro w2 C2 ⟨hC2, s2, l2, e2, rfl, hN2⟩
  have hO2 : Old H C2 := ((Old.refl H).app _).trans (hC.trans hC2)
  have hdot := dot13 (u := .slice pw_ 0 n cw 3) (v := .slice px 0 n cx 3) (xs := V.map vx) (ys := qs) (K := 1100) (L := K) (H := C2) (by have := (hLw.any).old hC2; simpa [hne] using this) (by have := hx.old hO2; simpa [hqn] using this) (by simp; omega) (by simp; omega) (by omega) (by omega)
  simp only [List.length_map] at hdot
  rw [hne] at hdot
  repeat' first | (with_reducible (show W _ _ _ _ _); with_reducible refine go2 ?_) | (with_reducible (show W _ _ _ _ _); with_reducible refine sg2 ?_ ?_ <;> intro _) | (with_reducible (show W _ _ (.code (.region 7 _ true) :: _) _ _); with_reducible refine W_draw [(0, []), (1, []), (2, []), (3, []), (4, []), (5, []), (6, []), (7, []), (8, []), (9, []), (10, [4]), (11, []), (12, []), (13, []), (14, [])] [4] (by kernel_rfl) ?_)
  (with_reducible (show CallK _ _ _ _ _ _ _ _ _ _ _)); with_reducible refine cx2 hdot ?_
  rintro w3 C3 ⟨hC3, s3, l3, e3, rfl, hN3⟩
  repeat' first | (with_reducible (show W _ _ _ _ _); with_reducible refine go2 ?_) | (with_reducible (show W _ _ _ _ _); with_reducible refine sg2 ?_ ?_ <;> intro _) | (with_reducible (show W _ _ (.code (.region 7 _ true) :: _) _ _); with_reducible refine W_draw [(0, []), (1, []), (2, []), (3, []), (4, []), (5, []), (6, []), (7, []), (8, []), (9, []), (10, [4]), (11, []), (12, []), (13, []), (14, [])] [4] (by kernel_rfl) ?_)
  (with_reducible (show CallK _ _ _ _ _ _ _ _ _ _ _)); with_reducible refine cx2 (mul_num (hN2.old hC3) hN3 (by omega) (by omega)) ?_
  rintro w4 C4 ⟨hC4, s4, l4, e4, rfl, hN4⟩
  have ho4 := hN4.one
  obtain ⟨f, hf⟩ : ∃ f, vx tau * dotR (V.map vx) qs n = f := ⟨_, rfl⟩
  rw [hf] at hN4
  have hO4 : Old H C4 := hO2.trans (hC3.trans hC4)
  have hOw : Old C C4 := hC2.trans (hC3.trans hC4)
  obtain ⟨B, hB⟩ : ∃ B, C4 ++ [some ⟨[bl s4, l4, i64 e4], true⟩] = B := ⟨_, rfl⟩
  have hBl : B.length = C4.length + 1 := by rw [← hB]; simp
  have hOB : Old C4 B := by rw [← hB]; exact (Old.refl _).app _
  have cB : hget B C4.length = some ⟨[bl s4, l4, i64 e4], true⟩ := by rw [← hB]; exact hget_new'
  clear hdot hN2 hN3
  repeat' first | (with_reducible (show W _ _ _ _ _); with_reducible refine go2 ?_) | (with_reducible (show W _ _ _ _ _); with_reducible refine sg2 ?_ ?_ <;> intro _) | (with_reducible (show W _ _ (.code (.region 7 _ true) :: _) _ _); with_reducible refine W_draw [(0, []), (1, []), (2, []), (3, []), (4, []), (5, []), (6, []), (7, []), (8, []), (9, []), (10, [4]), (11, []), (12, []), (13, []), (14, [])] [4] (by kernel_rfl) ?_)
  refine W_for (fun j ρ C' => ∃ k : Nat, k + j = n ∧ Nl B C' (ρ 7) (turnR V tau qs k) (K + 5000) ∧ Old B C' ∧ ρ 5 = .slice pw_ 0 n cw 3 ∧ ρ 1 = .slice px 0 n cx 3 ∧ ρ 6 = .ptr C4.length 0 ∧ ρ 21 = i64 (n : Int) ∧ ρ 22 = i64 (k : Int)) n ?_ ?_
  · refine ⟨0, by omega, ?_, ?_, rfl, rfl, rfl, rfl, rfl⟩
    · show Nl B _ (.slice _ 0 0 _ 3) [] _
      refine Nl.nil _ (p := C4.length + 1) ?_ (by omega)
      rw [← hBl]; exact hget_new'
    · exact (Old.refl B).app _
  rintro j ρ C' ⟨k, hk, hL, hC', h5, h1, h6, h21, h22⟩
  obtain ⟨u, hu⟩ : ∃ u, ρ 7 = u := ⟨_, rfl⟩
  rw [hu] at hL
  by_cases hlt : (k : Int) < n
  · have e1 : IntKind.i64.wrap ((k : Int) + 1) = ((k + 1 : Nat) : Int) := by rw [wrap_i64 (by omega)]; omega
    obtain ⟨s5, l5, e5, hd5, hN5⟩ := hex k (by omega)
    obtain ⟨s6, l6, e6, hd6, hN6⟩ := hew k (by omega)
    have ho5 := hN5.one
    have ho6 := hN6.one
    have f7 : (k * 3 + 3 ≤ n * 3) = True := eq_true (by omega)
    have hO4' : Old C4 C' := hOB.trans hC'
    have hpxC := (hO4.trans hO4').getO hpx
    have hpwC := (hOw.trans hO4').getO hpw
    have cC := hC'.getO cB
    rw [map_vx_get (by omega)] at hN6
    have hstep := turnR_succ V tau qs k
    rw [hne, hf] at hstep
    replace hstep : Hid2 _ := hstep
    repeat' first | (with_reducible (show W _ _ _ _ _); with_reducible refine go2 ?_) | (with_reducible (show W _ _ _ _ _); with_reducible refine sg2 ?_ ?_ <;> intro _) | (with_reducible (show W _ _ (.code (.region 7 _ true) :: _) _ _); with_reducible refine W_draw [(0, []), (1, []), (2, []), (3, []), (4, []), (5, []), (6, []), (7, []), (8, []), (9, []), (10, [4]), (11, []), (12, []), (13, []), (14, [])] [4] (by kernel_rfl) ?_)
    (with_reducible (show CallK _ _ _ _ _ _ _ _ _ _ _)); with_reducible refine cxh (mul_num (hN4.old hO4') (hN6.old (hOw.trans hO4')) (by omega) (by omega)) ?_
    rintro w7 C7 ⟨hC7, s7, l7, e7, rfl, hN7⟩
    have hpx7 := hC7.getO hpxC
    refine ⟨by simp [held_cons, held_nil', sem_load, loadV_ptr, cellsAt_eq, ty_34, hpx7, hlx, hd5, f7], ?_⟩
    repeat' first | (with_reducible (show W _ _ _ _ _); with_reducible refine go2 ?_) | (with_reducible (show W _ _ _ _ _); with_reducible refine sg2 ?_ ?_ <;> intro _) | (with_reducible (show W _ _ (.code (.region 7 _ true) :: _) _ _); with_reducible refine W_draw [(0, []), (1, []), (2, []), (3, []), (4, []), (5, []), (6, []), (7, []), (8, []), (9, []), (10, [4]), (11, []), (12, []), (13, []), (14, [])] [4] (by kernel_rfl) ?_)
    (with_reducible (show CallK _ _ _ _ _ _ _ _ _ _ _)); with_reducible refine cx2 (sub_num ((hN5.old (hO4.trans (hO4'.trans hC7))).mono (show K ≤ K + 4500 by omega)) (hN7.mono (show 1100 + (1100 + K + 1000) + 1100 ≤ K + 4500 by omega)) (by omega)) ?_
    rintro w8 C8 ⟨hC8, s8, l8, e8, rfl, hN8⟩
    have ho8 := hN8.one
    repeat' first | (with_reducible (show W _ _ _ _ _); with_reducible refine go2 ?_) | (with_reducible (show W _ _ _ _ _); with_reducible refine sg2 ?_ ?_ <;> intro _) | (with_reducible (show W _ _ (.code (.region 7 _ true) :: _) _ _); with_reducible refine W_draw [(0, []), (1, []), (2, []), (3, []), (4, []), (5, []), (6, []), (7, []), (8, []), (9, []), (10, [4]), (11, []), (12, []), (13, []), (14, [])] [4] (by kernel_rfl) ?_)
    (with_reducible (show AppK _ _ _ _ _ _ _ _ _ _)); with_reducible refine app_nl (hC'.trans (hC7.trans hC8)) (hL.old (hC7.trans hC8)) (by rw [turnR_len]; omega) hty ⟨by decide, rfl, by decide⟩ (hN8.mono (show K + 4500 + 1 ≤ K + 5000 by omega)) rfl rfl rfl ?_
    intro v' C9 hC9 hL9 _
    refine ⟨held_none _ _ _, ?_⟩
    rw [← show turnR V tau qs (k + 1) = _ from hstep] at hL9
    repeat' first | (with_reducible (show W _ _ _ _ _); with_reducible refine go2 ?_) | (with_reducible (show W _ _ _ _ _); with_reducible refine sg2 ?_ ?_ <;> intro _) | (with_reducible (show W _ _ _ _ _); with_reducible refine sc2 ?_ ?_ <;> intro _) | (with_reducible (show W _ _ (.code (.region 7 _ true) :: _) _ _); with_reducible refine W_draw [(0, []), (1, []), (2, []), (3, []), (4, []), (5, []), (6, []), (7, []), (8, []), (9, []), (10, [4]), (11, []), (12, []), (13, []), (14, [])] [4] (by kernel_rfl) ?_)
    all_goals first
      | exact ⟨j - 1, by omega, k + 1, by omega, hL9, hC9, rfl⟩
      | exact ⟨j - 1, by omega, k + 1, by omega, hL9, rfl⟩
  · have hkn : k = n := by omega
    rw [hkn] at hL
    have hOf : Old H C' := hO4.trans (hOB.trans hC')
    replace hL := hL.base (H' := H) (by have := hO4.1; omega)
    clear hkn
    repeat' first | (with_reducible (show W _ _ _ _ _); with_reducible refine go2 ?_) | (with_reducible (show W _ _ _ _ _); with_reducible refine sg2 ?_ ?_ <;> intro _) | (with_reducible (show W _ _ _ _ _); with_reducible refine sc2 ?_ ?_ <;> intro _) | (with_reducible (show W _ _ (.code (.region 7 _ true) :: _) _ _); with_reducible refine W_draw [(0, []), (1, []), (2, []), (3, []), (4, []), (5, []), (6, []), (7, []), (8, []), (9, []), (10, [4]), (11, []), (12, []), (13, []), (14, [])] [4] (by kernel_rfl) ?_)
    all_goals first | trivial | exact ⟨hOf, hL⟩
end Go.Proofs.YtcikcinkjbbnhaaDoor.M
