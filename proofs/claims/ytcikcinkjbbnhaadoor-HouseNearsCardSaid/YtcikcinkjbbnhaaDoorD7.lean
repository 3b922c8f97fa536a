/- Exact numbers: two held against each other; two at one power of two. -/
import Derived.Test.YtcikcinkjbbnhaaDoorD6
set_option linter.unusedSimpArgs false
set_option linter.unusedVariables false
set_option pp.deepTerms false
set_option pp.maxSteps 1500
set_option maxRecDepth 10000
set_option maxHeartbeats 4000000
namespace Go.Proofs.YtcikcinkjbbnhaaDoor.M
open Go Go.Proofs

def cmpD (a b : Int) : Int := if a < b then -1 else if b < a then 1 else 0
theorem cmp_dspec {H : MH} {u v : MV} {a b : List Int} (hu : Dg H u a) (hv : Dg H v b) (ha : D32 a) (hb : D32 b) (ta : Top a) (tb : Top b) (hl : a.length ≤ 100000000000) :
    Spec Tryd.prog 70 [u, v] H fun r H' => r = i64 (cmpD (dv a) (dv b)) ∧ H' = H := by
  obtain ⟨p, o, c, ob, rfl, hp, hc, hcell⟩ := hu
  obtain ⟨p', o', c', ob', rfl, hp', hc', hcell'⟩ := hv
  have f3 : ∀ m : Nat, (0 ≤ (m : Int)) = True := fun m => eq_true (by omega)
  have f5 : ∀ m : Nat, (m : Int).toNat = m := fun m => Int.toNat_natCast m
  have f6 : ∀ m : Nat, m * 1 = m := Nat.mul_one
  refine Spec.scalar (enterS Tryd.func70 [.tmp 4] ?_)
  by_cases hne : a.length = b.length
  · obtain ⟨n, hn⟩ : ∃ n, a.length = n := ⟨_, rfl⟩
    have hn' : b.length = n := hne.symm.trans hn
    have hn0 : 0 < n := by
      have := ta.1
      rcases Nat.eq_zero_or_pos n with h | h
      · exact absurd (List.eq_nil_of_length_eq_zero (hn.trans h)) this
      · exact h
    rw [hn] at hcell hl hc
    rw [hn'] at hcell' hc'
    rw [hn, hn']
    have e0 : IntKind.i64.wrap ((n : Int) - 1) = (n : Int) - 1 := wrap_i64 (by omega)
    repeat' first | (with_reducible (show W _ _ _ _ _); with_reducible refine go2 ?_) | (with_reducible (show W _ _ _ _ _); with_reducible refine sg2 ?_ ?_ <;> intro _) | (with_reducible (show W _ _ (.code (.region 8 _ true) :: _) _ _); with_reducible refine W_draw [(0, []), (1, []), (2, []), (3, []), (4, []), (5, []), (6, []), (7, []), (8, [])] [] (by kernel_rfl) ?_) | (with_reducible (show W _ _ (.code (.region 9 _ true) :: _) _ _); with_reducible refine W_draw [(0, []), (1, []), (2, []), (3, []), (4, []), (5, []), (6, []), (7, []), (8, [])] [] (by kernel_rfl) ?_)
    refine W_for (fun j ρ H' => ∃ k : Nat, k = j ∧ k ≤ n ∧ Hid2 (∀ i, k ≤ i → i < n → a.getD i 0 = b.getD i 0) ∧ ρ 0 = .slice p o n c 1 ∧ ρ 1 = .slice p' o' n c' 1 ∧ ρ 5 = i64 ((k : Int) - 1) ∧ H' = H) n ?_ ?_
    · exact ⟨n, rfl, Nat.le_refl _, fun i h1 h2 => by omega, rfl, rfl, rfl, rfl⟩
    rintro j ρ H' ⟨k, rfl, hk, hall, h0, h1, h5, rfl⟩
    by_cases hk0 : 0 < k
    · have f7 : ob.cells[o + (k - 1)]? = some (w32 (a.getD (k - 1) 0)) := hcell _ (by omega)
      have f8 : ob'.cells[o' + (k - 1)]? = some (w32 (b.getD (k - 1) 0)) := hcell' _ (by omega)
      have ek : (k : Int) - 1 = ((k - 1 : Nat) : Int) := by omega
      rw [ek] at h5
      have f9 : (((k - 1 : Nat) : Int) < (n : Int)) = True := eq_true (by omega)
      have e1 : IntKind.i64.wrap (((k - 1 : Nat) : Int) - 1) = ((k - 1 : Nat) : Int) - 1 := wrap_i64 (by omega)
      repeat' first | (with_reducible (show W _ _ _ _ _); with_reducible refine go2 ?_) | (with_reducible (show W _ _ _ _ _); with_reducible refine sg2 ?_ ?_ <;> intro _) | (with_reducible (show W _ _ _ _ _); with_reducible refine sc2 ?_ ?_ <;> intro _) | (with_reducible (show W _ _ (.code (.region 8 _ true) :: _) _ _); with_reducible refine W_draw [(0, []), (1, []), (2, []), (3, []), (4, []), (5, []), (6, []), (7, []), (8, [])] [] (by kernel_rfl) ?_) | (with_reducible (show W _ _ (.code (.region 9 _ true) :: _) _ _); with_reducible refine W_draw [(0, []), (1, []), (2, []), (3, []), (4, []), (5, []), (6, []), (7, []), (8, [])] [] (by kernel_rfl) ?_)
      · rename_i h1' h2'
        rw [cmpD, if_pos (dv_cmp ha hb hne (i := k - 1) (by omega) h2' (fun j h3 h4 => hall j (by omega) (by omega)))]
      · rename_i h1' h2'
        have : dv b < dv a := dv_cmp hb ha hne.symm (i := k - 1) (by omega) (by have := Int.lt_or_gt_of_ne h1'; omega) (fun j h3 h4 => (hall j (by omega) (by omega)).symm)
        rw [cmpD, if_neg (by omega), if_pos this]
      · rename_i h1'
        refine ⟨k - 1, by omega, k - 1, rfl, by omega, fun i h3 h4 => ?_, rfl⟩
        by_cases e : i = k - 1
        · subst e
          exact h1'
        · exact hall i (by omega) h4
    · have hk00 : k = 0 := by omega
      subst hk00
      replace h5 : ρ 5 = i64 (-1) := h5
      have he : a = b := eq_of_getD hne fun j hj => hall j (by omega) (by omega)
      have hcd : cmpD (dv a) (dv b) = 0 := by rw [he, cmpD, if_neg (by omega), if_neg (by omega)]
      clear he
      have hm1 : ((0 : Int) ≤ -1) = False := eq_false (by decide)
      repeat' first | (with_reducible (show W _ _ _ _ _); with_reducible refine go2 ?_) | (with_reducible (show W _ _ _ _ _); with_reducible refine sg2 ?_ ?_ <;> intro _) | (with_reducible (show W _ _ _ _ _); with_reducible refine sc2 ?_ ?_ <;> intro _) | (with_reducible (show W _ _ (.code (.region 8 _ true) :: _) _ _); with_reducible refine W_draw [(0, []), (1, []), (2, []), (3, []), (4, []), (5, []), (6, []), (7, []), (8, [])] [] (by kernel_rfl) ?_) | (with_reducible (show W _ _ (.code (.region 9 _ true) :: _) _ _); with_reducible refine W_draw [(0, []), (1, []), (2, []), (3, []), (4, []), (5, []), (6, []), (7, []), (8, [])] [] (by kernel_rfl) ?_)
      all_goals trivial
  · have hneI : ((a.length : Int) = (b.length : Int)) = False := eq_false (by omega)
    repeat' first | (with_reducible (show W _ _ _ _ _); with_reducible refine go2 ?_) | (with_reducible (show W _ _ _ _ _); with_reducible refine sg2 ?_ ?_ <;> intro _) | (with_reducible (show W _ _ _ _ _); with_reducible refine sc2 ?_ ?_ <;> intro _) | (with_reducible (show W _ _ (.code (.region 8 _ true) :: _) _ _); with_reducible refine W_draw [(0, []), (1, []), (2, []), (3, []), (4, []), (5, []), (6, []), (7, []), (8, [])] [] (by kernel_rfl) ?_) | (with_reducible (show W _ _ (.code (.region 9 _ true) :: _) _ _); with_reducible refine W_draw [(0, []), (1, []), (2, []), (3, []), (4, []), (5, []), (6, []), (7, []), (8, [])] [] (by kernel_rfl) ?_)
    · rename_i h1
      rw [cmpD, if_pos (dv_len_lt ha hb tb (by omega))]
    · rename_i h1
      have := dv_len_lt hb ha ta (by omega)
      rw [cmpD, if_neg (by omega), if_pos this]
theorem cut_spec {H : MH} {v : MV} {ms : List Int} (hv : Dg H v ms) (hl : ms.length ≤ 100000000000) : Spec Tryd.prog 89 [v] H fun u H' => Old H H' ∧ ∃ k, k ≤ ms.length ∧ Dg H' u (ms.take k) ∧ dv (ms.take k) = dv ms ∧ (k = 0 ∨ ms.getD (k - 1) 0 ≠ 0) := by
  obtain ⟨p, o, c, ob, rfl, hp, hc, hcell⟩ := hv
  obtain ⟨n, hn⟩ : ∃ n, ms.length = n := ⟨_, rfl⟩
  rw [hn] at hcell hc hl ⊢
  have f3 : ∀ m : Nat, (0 ≤ (m : Int)) = True := fun m => eq_true (by omega)
  have f5 : ∀ m : Nat, (m : Int).toNat = m := fun m => Int.toNat_natCast m
  have f6 : ∀ m : Nat, m * 1 = m := Nat.mul_one
  have om : ∀ f : Operand → MV, Option.map f none = none := fun _ => _root_.id rfl
  refine enterS Tryd.func89 [.tmp 2] ?_
  repeat' first | (with_reducible (show W _ _ _ _ _); with_reducible refine go2 ?_) | (with_reducible (show W _ _ _ _ _); with_reducible refine sg2 ?_ ?_ <;> intro _)
  refine W_for (fun j ρ H' => ∃ k : Nat, k = j ∧ k ≤ n ∧ Is (dv (ms.take k)) (dv ms) ∧ ρ 0 = .slice p o n c 1 ∧ ρ 3 = i64 (k : Int) ∧ H' = H) n ?_ ?_
  · exact ⟨n, rfl, Nat.le_refl _, dv_take_all (by omega), rfl, rfl, rfl⟩
  rintro j ρ H' ⟨k, rfl, hk, hdk, h0, h3, rfl⟩
  have hDg : Dg H' (.slice p o k c 1) (ms.take k) := ⟨p, o, c, ob, by rw [List.length_take, Nat.min_eq_left (by omega)], hp, by rw [List.length_take]; omega, fun i hi => by
    rw [List.length_take] at hi
    have hi2 : i < k := by omega
    rw [hcell i (by omega)]
    simp [List.getD_eq_getElem?_getD, List.getElem?_take, hi2]⟩
  have f9 : ((k : Int) ≤ (n : Int)) = True := eq_true (by omega)
  by_cases hk0 : 0 < (k : Int)
  · have e1 : IntKind.i64.wrap ((k : Int) - 1) = ((k - 1 : Nat) : Int) := by rw [wrap_i64 (by omega)]; omega
    have f7 : ob.cells[o + (k - 1)]? = some (w32 (ms.getD (k - 1) 0)) := hcell _ (by omega)
    have f8 : (((k - 1 : Nat) : Int) < (n : Int)) = True := eq_true (by omega)
    repeat' first | (with_reducible (show W _ _ _ _ _); with_reducible refine go2 ?_) | (with_reducible (show W _ _ _ _ _); with_reducible refine sg2 ?_ ?_ <;> intro _)
    refine sc2 ?_ ?_ <;> intro hz
    · repeat' first | (with_reducible (show W _ _ _ _ _); with_reducible refine go2 ?_) | (with_reducible (show W _ _ _ _ _); with_reducible refine sg2 ?_ ?_ <;> intro _) | (with_reducible (show W _ _ _ _ _); with_reducible refine sc2 ?_ ?_ <;> intro _)
      refine ⟨k - 1, by omega, k - 1, rfl, by omega, ?_, rfl⟩
      have := dv_take_succ (l := ms) (k := k - 1) (by omega)
      rw [show k - 1 + 1 = k by omega, hz] at this
      exact (by rw [this]; omega : dv (ms.take (k - 1)) = dv (ms.take k)).trans hdk
    · repeat' first | (with_reducible (show W _ _ _ _ _); with_reducible refine go2 ?_) | (with_reducible (show W _ _ _ _ _); with_reducible refine sg2 ?_ ?_ <;> intro _) | (with_reducible (show W _ _ _ _ _); with_reducible refine sc2 ?_ ?_ <;> intro _)
      exact ⟨Old.refl _, k, hk, hDg, hdk, .inr (by simpa using hz)⟩
  · have hk00 : k = 0 := by omega
    subst hk00
    repeat' first | (with_reducible (show W _ _ _ _ _); with_reducible refine go2 ?_) | (with_reducible (show W _ _ _ _ _); with_reducible refine sg2 ?_ ?_ <;> intro _) | (with_reducible (show W _ _ _ _ _); with_reducible refine sc2 ?_ ?_ <;> intro _)
    exact ⟨Old.refl _, 0, by omega, hDg, hdk, .inl rfl⟩
/-- Two numbers' digits at one power of two. -/
theorem line_spec {H : MH} {sa sb : Bool} {la lb : MV} {ea eb : Int} {a b : List Int} (hu : Dg H la a) (hv : Dg H lb b) (ha : D32 a) (hb : D32 b) (ta : Top a) (tb : Top b) (hla : a.length ≤ 1000000000) (hlb : b.length ≤ 1000000000)
    (hea : -10000000000 ≤ ea ∧ ea ≤ 10000000000) (heb : -10000000000 ≤ eb ∧ eb ≤ 10000000000) :
    Spec Tryd.prog 69 [nv sa la ea, nv sb lb eb] H fun r H' => Old H H' ∧ ∃ (x y : MV) (xs ys : List Int), r = .tup [x, y, i64 (min ea eb)] ∧ Dg H' x xs ∧ Dg H' y ys ∧ D32 xs ∧ D32 ys ∧ Top xs ∧ Top ys ∧
      dv xs = dv a * 2 ^ (ea - min ea eb).toNat ∧ dv ys = dv b * 2 ^ (eb - min ea eb).toNat ∧ xs.length ≤ (ea - min ea eb).toNat / 32 + a.length + 1 ∧ ys.length ≤ (eb - min ea eb).toNat / 32 + b.length + 1 := by
  obtain ⟨pa, oa, ca, oba, rfl, hpa, hca, hcella⟩ := id hu
  obtain ⟨pb, ob_, cb, obb, rfl, hpb, hcb, hcellb⟩ := id hv
  have hmin : (if eb < ea then eb else ea) = min ea eb := by omega
  obtain ⟨e, he⟩ : ∃ e, min ea eb = e := ⟨_, rfl⟩
  rw [he] at hmin ⊢
  obtain ⟨na, hna⟩ : ∃ na : Nat, ea - e = na := ⟨(ea - e).toNat, by omega⟩
  obtain ⟨nb, hnb⟩ : ∃ nb : Nat, eb - e = nb := ⟨(eb - e).toNat, by omega⟩
  have w1 : IntKind.i64.wrap (ea - e) = (na : Int) := by rw [wrap_i64 (by omega)]; exact hna
  have w2 : IntKind.i64.wrap (eb - e) = (nb : Int) := by rw [wrap_i64 (by omega)]; exact hnb
  rw [hna, hnb, Int.toNat_natCast, Int.toNat_natCast]
  have hna2 : na ≤ 20000000000 := by omega
  have hnb2 : nb ≤ 20000000000 := by omega
  clear hna hnb
  have huL : ∀ C : MH, Old H C → Dg C (.slice pa oa a.length ca 1) a := fun C hC => hu.old hC
  have hvL : ∀ C : MH, Old H C → Dg C (.slice pb ob_ b.length cb 1) b := fun C hC => hv.old hC
  have htop : ∀ {r : List Int} {d : Int} {n k : Nat}, D32 r → 1 ≤ d → dv r = d * 2 ^ n → dv (r.take k) = dv r → (k = 0 ∨ r.getD (k - 1) 0 ≠ 0) → k ≤ r.length → Top (r.take k) := fun {r d n k} hr hd h1 h2 h3 hk => by
    have hpos : 1 ≤ dv (r.take k) := by
      rw [h2, h1]
      have : 1 * 1 ≤ d * 2 ^ n := Int.mul_le_mul hd (tpos n) (by omega) (by omega)
      omega
    have hk0 : k ≠ 0 := fun e => by subst e; simp [dv] at hpos
    have hlen : (r.take k).length = k := by rw [List.length_take, Nat.min_eq_left hk]
    refine ⟨fun e => hk0 (by rw [← hlen, e]; rfl), ?_⟩
    rw [hlen]
    rcases h3 with h3 | h3
    · exact absurd h3 hk0
    · rw [List.getD_eq_getElem?_getD, List.getElem?_take, if_pos (by omega), ← List.getD_eq_getElem?_getD]; exact h3
  refine enterS Tryd.func69 [.tmp 4, .tmp 5, .tmp 6] ?_
  repeat' first | (with_reducible (show W _ _ _ _ _); with_reducible refine go2 ?_) | (with_reducible (show W _ _ _ _ _); with_reducible refine sg2 ?_ ?_ <;> intro _) | (with_reducible (show W _ _ (.code (.region 3 _ true) :: _) _ _); with_reducible refine W_draw [(0, []), (1, []), (2, []), (3, []), (4, []), (5, []), (6, []), (9, []), (10, []), (11, []), (12, []), (13, []), (14, []), (15, []), (18, []), (7, [11, 13]), (8, [11, 13]), (16, []), (17, []), (19, []), (20, []), (21, [])] [11, 13] (by kernel_rfl) ?_)
  (with_reducible (show CallK _ _ _ _ _ _ _ _ _ _ _)); with_reducible refine cxh (up_spec (huL _ ((Old.refl H).app _)) ha hla (by omega)) ?_
  rintro u C ⟨hC, r, hG, hrd, hrv, hrl⟩
  have hb1 : hget C (H.length + 1) = _ := hC.getO (hget_newL rfl)
  have hheld : ∀ C2 : MH, hget C2 (H.length + 1) = some ⟨[bl sb, .slice pb ob_ b.length cb 1, i64 eb], true⟩ → held Tryd.prog [11, 13] C2 [(13, HF.load 3 (.ptr (H.length + 1) 2) (i64 eb)), (11, HF.load 32 (.ptr (H.length + 1) 1) (.slice pb ob_ b.length cb 1))] := fun C2 h2 => by
    simp [held_cons, held_nil', sem_load, loadV_ptr, cellsAt_eq, ty_3, ty_32, h2]
  refine ⟨hheld C hb1, ?_⟩
  have hrl2 : r.length ≤ 100000000000 := by omega
  repeat' first | (with_reducible (show W _ _ _ _ _); with_reducible refine go2 ?_) | (with_reducible (show W _ _ _ _ _); with_reducible refine sg2 ?_ ?_ <;> intro _) | (with_reducible (show W _ _ (.code (.region 3 _ true) :: _) _ _); with_reducible refine W_draw [(0, []), (1, []), (2, []), (3, []), (4, []), (5, []), (6, []), (9, []), (10, []), (11, []), (12, []), (13, []), (14, []), (15, []), (18, []), (7, [11, 13]), (8, [11, 13]), (16, []), (17, []), (19, []), (20, []), (21, [])] [11, 13] (by kernel_rfl) ?_)
  (with_reducible (show CallK _ _ _ _ _ _ _ _ _ _ _)); with_reducible refine cxh (cut_spec hG.dg hrl2) ?_
  rintro u2 C2 ⟨hC2, k, hk, hD2, hv2, ht2⟩
  refine ⟨hheld C2 (hC2.getO hb1), ?_⟩
  have hO2 : Old H C2 := ((Old.refl H).app _).trans (hC.trans hC2)
  have hT2 := htop hrd (dv_pos ha ta) hrv hv2 ht2 hk
  repeat' first | (with_reducible (show W _ _ _ _ _); with_reducible refine go2 ?_) | (with_reducible (show W _ _ _ _ _); with_reducible refine sg2 ?_ ?_ <;> intro _) | (with_reducible (show W _ _ (.code (.region 3 _ true) :: _) _ _); with_reducible refine W_draw [(0, []), (1, []), (2, []), (3, []), (4, []), (5, []), (6, []), (9, []), (10, []), (11, []), (12, []), (13, []), (14, []), (15, []), (18, []), (7, [11, 13]), (8, [11, 13]), (16, []), (17, []), (19, []), (20, []), (21, [])] [11, 13] (by kernel_rfl) ?_)
  (with_reducible (show CallK _ _ _ _ _ _ _ _ _ _ _)); with_reducible refine cx2 (up_spec (hvL _ hO2) hb hlb (by omega)) ?_
  rintro u3 C3 ⟨hC3, r3, hG3, hrd3, hrv3, hrl3⟩
  have hrl4 : r3.length ≤ 100000000000 := by omega
  repeat' first | (with_reducible (show W _ _ _ _ _); with_reducible refine go2 ?_) | (with_reducible (show W _ _ _ _ _); with_reducible refine sg2 ?_ ?_ <;> intro _) | (with_reducible (show W _ _ (.code (.region 3 _ true) :: _) _ _); with_reducible refine W_draw [(0, []), (1, []), (2, []), (3, []), (4, []), (5, []), (6, []), (9, []), (10, []), (11, []), (12, []), (13, []), (14, []), (15, []), (18, []), (7, [11, 13]), (8, [11, 13]), (16, []), (17, []), (19, []), (20, []), (21, [])] [11, 13] (by kernel_rfl) ?_)
  (with_reducible (show CallK _ _ _ _ _ _ _ _ _ _ _)); with_reducible refine cx2 (cut_spec hG3.dg hrl4) ?_
  rintro u4 C4 ⟨hC4, k4, hk4, hD4, hv4, ht4⟩
  have hT4 := htop hrd3 (dv_pos hb tb) hrv3 hv4 ht4 hk4
  repeat' first | (with_reducible (show W _ _ _ _ _); with_reducible refine go2 ?_) | (with_reducible (show W _ _ _ _ _); with_reducible refine sg2 ?_ ?_ <;> intro _) | (with_reducible (show W _ _ _ _ _); with_reducible refine sc2 ?_ ?_ <;> intro _) | (with_reducible (show W _ _ (.code (.region 3 _ true) :: _) _ _); with_reducible refine W_draw [(0, []), (1, []), (2, []), (3, []), (4, []), (5, []), (6, []), (9, []), (10, []), (11, []), (12, []), (13, []), (14, []), (15, []), (18, []), (7, [11, 13]), (8, [11, 13]), (16, []), (17, []), (19, []), (20, []), (21, [])] [11, 13] (by kernel_rfl) ?_)
  refine ⟨hO2.trans (hC3.trans hC4), u2, u4, _, _, rfl, hD2.old (hC3.trans hC4), hD4, fun x hx => hrd x (List.mem_of_mem_take hx), fun x hx => hrd3 x (List.mem_of_mem_take hx), hT2, hT4, hv2.trans hrv, hv4.trans hrv3, ?_, ?_⟩
  · rw [List.length_take]; omega
  · rw [List.length_take]; omega
end Go.Proofs.YtcikcinkjbbnhaaDoor.M
