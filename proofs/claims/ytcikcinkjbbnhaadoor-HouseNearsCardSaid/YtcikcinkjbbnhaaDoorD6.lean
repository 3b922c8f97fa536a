/- Exact numbers: a shift upwards; two numbers held against each other. -/
import Derived.Test.YtcikcinkjbbnhaaDoorD5
set_option linter.unusedSimpArgs false
set_option linter.unusedVariables false
set_option pp.deepTerms false
set_option pp.maxSteps 1500
set_option maxRecDepth 10000
set_option maxHeartbeats 4000000
namespace Go.Proofs.YtcikcinkjbbnhaaDoor.M
open Go Go.Proofs

/-- A list that grows, laid with room or without. -/
def Gw (H C : MH) (v : MV) (ms : List Int) : Prop := ∃ px c cells, v = .slice px 0 ms.length c 1 ∧ ms.length ≤ c ∧ hget C px = some ⟨cells, true⟩ ∧ cells.take ms.length = ms.map w32 ∧ H.length ≤ px
theorem Gw.dg {H C : MH} {v : MV} {ms : List Int} (h : Gw H C v ms) : Dg C v ms := by
  obtain ⟨px, c, cells, h1, h2, h3, h4, h5⟩ := h
  refine ⟨px, 0, c, _, h1, h3, h2, fun i hi => ?_⟩
  have := congrArg (fun l : List MV => l[i]?) h4
  simp only [List.getElem?_take, if_pos hi, List.getElem?_map] at this
  rw [Nat.zero_add]
  rw [this, List.getElem?_eq_getElem hi]
  simp [List.getD_eq_getElem?_getD, hi]
theorem app_gw {P : Program} {Q : MQ} {H C : MH} (hC : Old H C) {v : MV} {ms : List Int} (hx : Gw H C v ms) (hm : ms.length ≤ 60000000000) {t : TypeId} {eb : Nat} {zs : List Value} {b : Bool} (ht : (ty P t).k = .slice 1 eb (some zs) b)
    (hz : 0 < eb ∧ zs.length = 1 ∧ eb ≤ 2 ^ 10) {x : Int} {c1 n0 n1 : Nat} {C2 : MH} (hn0 : n0 = C.length) (hn1 : n1 = C.length + 1) (hC2 : C2 = C ++ [some ⟨[w32 x], true⟩])
    {d L l F k ρ} (h : ∀ v' C', Old H C' → Gw H C' v' (ms ++ [x]) → held P L C' F ∧ W P Q (.run l F :: k) (put ρ d v') C') :
    AppK P Q (appV P #[t, t] v (.slice n0 0 1 c1 1) C2) n1 d L l F k ρ := by
  subst hn0 hn1 hC2
  obtain ⟨px, c, cells, rfl, hmc, hpx, htk, h1⟩ := hx
  have hnw : hget (C ++ [some ⟨[w32 x], true⟩]) C.length = some ⟨[w32 x], true⟩ := hget_append_new
  have hpl := lt_of_hget hpx
  have hpo : hget (C ++ [some ⟨[w32 x], true⟩]) px = some ⟨cells, true⟩ := (hget_old hpl).trans hpx
  have hln : (cells.take ms.length).length = ms.length := by rw [htk, List.length_map]
  have hlc : ms.length ≤ cells.length := by rw [List.length_take] at hln; omega
  have hres : appV P #[t, t] (.slice px 0 ms.length c 1) (.slice C.length 0 1 c1 1) (C ++ [some ⟨[w32 x], true⟩]) = some (some (cells.take ms.length ++ [w32 x], ms.length + 1, 1), (C ++ [some (MO.mk [w32 x] true)]).set px none ++ [some ⟨cells.take ms.length ++ [w32 x], true⟩]) := by
    have htl : ∀ A : MH, hget A C.length = some ⟨[w32 x], true⟩ → tailV 1 (.slice C.length 0 1 c1 1) A = some ([w32 x], 1) := fun A hA => by
      simp only [tailV, if_true, cellsAt_eq, hA]
      simp
    by_cases he : ms.length = cells.length
    · refine appV_of ?_
      unfold appV0
      simp only [List.getElem?_toArray, List.getElem?_cons_zero, List.getElem?_cons_succ, ht, htl _ hnw]
      simp [hz, hpo, he, one, show cells.length + 1 ≤ 68719476736 by omega]
    · have h0 : appV0 P #[t, t] (.slice px 0 ms.length c 1) (.slice C.length 0 1 c1 1) (C ++ [some (MO.mk [w32 x] true)]) = none := by
        unfold appV0
        simp only [List.getElem?_toArray, List.getElem?_cons_zero, List.getElem?_cons_succ, ht, htl _ hnw]
        simp [hz, hpo, he, one]
      have htr : truncH (.slice px 0 ms.length c 1) (C ++ [some (MO.mk [w32 x] true)]) = (C ++ [some (MO.mk [w32 x] true)]).set px (some (MO.mk (cells.take ms.length) true)) := by
        simp [truncH, hpo]
      unfold appV
      rw [h0]
      dsimp only
      rw [htr]
      have hpl2 : px < (C ++ [some (MO.mk [w32 x] true)]).length := by simp; omega
      have hnw2 : hget ((C ++ [some (MO.mk [w32 x] true)]).set px (some (MO.mk (cells.take ms.length) true))) C.length = some ⟨[w32 x], true⟩ := (hget_set_ne (by omega) _).trans hnw
      have hpo2 : hget ((C ++ [some (MO.mk [w32 x] true)]).set px (some (MO.mk (cells.take ms.length) true))) px = some ⟨cells.take ms.length, true⟩ := hget_set_same hpl2 _
      unfold appV0
      simp only [List.getElem?_toArray, List.getElem?_cons_zero, List.getElem?_cons_succ, ht, htl _ hnw2, hpo2]
      simp [hz, one, hln, List.set_set, show ms.length + 1 ≤ 68719476736 by omega, Nat.min_eq_left hlc]
  rw [hres]
  simp only [AppK]
  intro c' hc'
  have hlen2 : ((C ++ [some (MO.mk [w32 x] true)]).set px none).length = C.length + 1 := by simp
  refine h _ _ (((hC.app _).setq _ h1).app _) ⟨C.length + 1, c', cells.take ms.length ++ [w32 x], by simp, by simpa using hc', ?_, ?_, by have := hC.1; omega⟩
  · rw [← hlen2]; exact hget_append_new
  · rw [List.length_append, List.length_singleton, List.take_of_length_le (by simp [hln]), htk]
    simp
theorem or32c {a b : Int} {k : Nat} (ha : 0 ≤ a ∧ a < 2 ^ k) (hk : k ≤ 32) (hb : 0 ≤ b) (hlt : a + b * 2 ^ k < 4294967296) : bits .or .u32 (b * 2 ^ k) a = a + b * 2 ^ k := by
  rw [← or32 ha hk hb hlt]
  unfold bits
  dsimp only
  rw [BitVec.toNat_or, BitVec.toNat_or, Nat.or_comm]
/-- One digit of a shift upwards. -/
theorem up_digit {s : Nat} (hs : s < 32) {x c : Int} (hx : 0 ≤ x ∧ x < 4294967296) (hc : 0 ≤ c ∧ c < 2 ^ s) : bits .or .u32 (shlV .u32 x (s : Int)) c = c + x % 2 ^ (32 - s) * 2 ^ s ∧
    IntKind.u32.wrap (shrV .u64 (IntKind.u64.wrap x) ((32 - s : Nat) : Int)) = x / 2 ^ (32 - s) ∧ 0 ≤ x / 2 ^ (32 - s) ∧ x / 2 ^ (32 - s) < 2 ^ s ∧ 0 ≤ c + x % 2 ^ (32 - s) * 2 ^ s ∧ c + x % 2 ^ (32 - s) * 2 ^ s < 4294967296 ∧ x * 2 ^ s = x % 2 ^ (32 - s) * 2 ^ s + x / 2 ^ (32 - s) * 4294967296 := by
  have h0 := tpos s
  have h1 := tpos (32 - s)
  have h2 := two32 (s := s) (by omega)
  have h3 := dshl32 hx.1 (s := 32 - s) (by omega)
  rw [show 32 - (32 - s) = s by omega] at h3
  have h4 := Int.emod_nonneg x (show (2 : Int) ^ (32 - s) ≠ 0 by omega)
  have h5 := Int.emod_lt_of_pos x (show (0 : Int) < 2 ^ (32 - s) by omega)
  have h6 : (x % 2 ^ (32 - s) + 1) * 2 ^ s ≤ 2 ^ (32 - s) * 2 ^ s := Int.mul_le_mul_of_nonneg_right (by omega) (by omega)
  rw [Int.mul_comm (2 ^ (32 - s)), h2, Int.add_mul] at h6
  have h7 : 0 ≤ x / 2 ^ (32 - s) := Int.ediv_nonneg hx.1 (by omega)
  have h8 : x / 2 ^ (32 - s) < 2 ^ s := Int.ediv_lt_of_lt_mul (by omega) (by rw [h2]; exact hx.2)
  have h9 : 0 ≤ x % 2 ^ (32 - s) * 2 ^ s := Int.mul_nonneg h4 (by omega)
  have h10 : (2 : Int) ^ s ≤ 4294967296 := by
    have : (2 : Int) ^ s * 1 ≤ 2 ^ s * 2 ^ (32 - s) := Int.mul_le_mul_of_nonneg_left (by omega) (by omega)
    omega
  refine ⟨?_, ?_, h7, h8, by omega, by omega, ?_⟩
  · rw [h3]
    exact or32c hc (by omega) h4 (by omega)
  · rw [wrap_u64, Int.emod_eq_of_lt hx.1 (by omega)]
    unfold shrV
    rw [pow_min (show 32 - s ≤ IntKind.u64.bits from by have : IntKind.u64.bits = 64 := rfl; omega), Int.fdiv_eq_ediv_of_nonneg _ (by omega), wrap_u32]
    exact Int.emod_eq_of_lt h7 (by omega)
  · have := Int.mul_ediv_add_emod x (2 ^ (32 - s))
    conv => lhs; rw [← this]
    rw [Int.add_mul, Int.mul_comm (2 ^ (32 - s)), Int.mul_assoc, Int.mul_comm (2 ^ (32 - s)), h2, Int.add_comm]
theorem up_spec {H : MH} {v : MV} {ms : List Int} (hv : Dg H v ms) (hd : D32 ms) (hl : ms.length ≤ 1000000000) {n : Nat} (hn : n ≤ 100000000000) :
    Spec Tryd.prog 90 [v, i64 (n : Int)] H fun u H' => Old H H' ∧ ∃ r, Gw H H' u r ∧ D32 r ∧ dv r = dv ms * 2 ^ n ∧ r.length = n / 32 + ms.length + 1 := by
  obtain ⟨p, o, c, ob, rfl, hp, hc, hcell⟩ := hv
  have hpl := lt_of_hget hp
  obtain ⟨L, hL⟩ : ∃ L, ms.length = L := ⟨_, rfl⟩
  rw [hL] at hcell hc hl ⊢
  have hms := msV32 (n := n / 32) (m := n / 32 + L + 1) (by omega) (by omega)
  have q1 : (n : Int).tdiv 32 = ((n / 32 : Nat) : Int) := by rw [Int.tdiv_eq_ediv_of_nonneg (by omega)]; omega
  have q2 : (n : Int).tmod 32 = ((n % 32 : Nat) : Int) := by rw [Int.tmod_eq_emod_of_nonneg (by omega)]; omega
  have e1 : IntKind.i64.wrap ((n / 32 : Nat) : Int) = ((n / 32 : Nat) : Int) := wrap_i64 (by omega)
  have e2 : IntKind.i64.wrap (((n / 32 : Nat) : Int) + (L : Int)) = ((n / 32 + L : Nat) : Int) := by rw [wrap_i64 (by omega)]; omega
  have e3 : IntKind.i64.wrap (((n / 32 + L : Nat) : Int) + 1) = ((n / 32 + L + 1 : Nat) : Int) := by rw [wrap_i64 (by omega)]; omega
  have e4 : IntKind.i64.wrap ((n % 32 : Nat) : Int) = ((n % 32 : Nat) : Int) := wrap_i64 (by omega)
  refine enterS Tryd.func90 [.tmp 4] ?_
  repeat' first | (with_reducible (show W _ _ _ _ _); with_reducible refine go2 ?_) | (with_reducible (show W _ _ _ _ _); with_reducible refine sg2 ?_ ?_ <;> intro _)
  refine W_for (fun j ρ C => ∃ (k : Nat) (c' : Int) (r : List Int), k + j = L ∧ Gw H C (ρ 5) (List.replicate (n / 32) 0 ++ r) ∧ (r.length = k ∧ D32 r ∧ Hid2 (dv r + c' * bp k = dv (ms.take k) * 2 ^ (n % 32)) ∧ 0 ≤ c' ∧ c' < 2 ^ (n % 32)) ∧ ρ 6 = i64 ((n % 32 : Nat) : Int) ∧ ρ 7 = w32 c' ∧ ρ 21 = .slice p o L c 1 ∧ ρ 22 = i64 (L : Int) ∧ ρ 23 = i64 (k : Int) ∧ Old H C) L ?_ ?_
  · refine ⟨0, 0, [], by omega, ?_, ⟨rfl, D32.nil, ?_, Int.le_refl _, by have := tpos (n % 32); omega⟩, rfl, rfl, rfl, rfl, rfl, (Old.refl H).app _⟩
    · refine ⟨H.length, n / 32 + L + 1, _, ?_, by simp; omega, hget_new', ?_, Nat.le_refl _⟩
      · simp [put]
      · simp only [List.append_nil, List.length_replicate, List.map_replicate]
        rw [List.take_replicate, Nat.min_eq_left (by omega)]
    · show _ = _
      simp [dv]
  clear hms
  rintro j ρ C ⟨k, c', r, hk, hG, ⟨hrl, hrd, hrv, hc0, hc1⟩, h6, h7, h21, h22, h23, hC⟩
  obtain ⟨u, hu⟩ : ∃ u, ρ 5 = u := ⟨_, rfl⟩
  rw [hu] at hG
  have f3 : ∀ m : Nat, (0 ≤ (m : Int)) = True := fun m => eq_true (by omega)
  have f4 : ∀ m : Nat, ((m : Int) < 0) = False := fun m => eq_false (by omega)
  have f5 : ∀ m : Nat, (m : Int).toNat = m := fun m => Int.toNat_natCast m
  have f6 : ∀ m : Nat, m * 1 = m := Nat.mul_one
  have hpc := hC.getO hp
  have hpcL : ∀ L : MH, hget (C ++ L) p = some ob := fun L => hget_appL hpc
  have hbs : ∀ x : Int, bsV (.slice 1 4 (some [.int .u32 0]) true) 1 [(0, w32 x)] = some ([w32 x], 1) := fun x => _root_.id rfl
  have hty : (ty Tryd.prog 32).k = .slice 1 4 (some [.int .u32 0]) true := by rw [ty_32]
  have hs : n % 32 < 32 := Nat.mod_lt _ (by decide)
  have hlr : (List.replicate (n / 32) (0 : Int) ++ r).length ≤ 60000000000 := by rw [List.length_append, List.length_replicate, hrl]; omega
  by_cases hlt : (k : Int) < L
  · have f7 : ob.cells[o + k]? = some (w32 (ms.getD k 0)) := hcell k (by omega)
    have e5 : IntKind.i64.wrap ((k : Int) + 1) = ((k + 1 : Nat) : Int) := by rw [wrap_i64 (by omega)]; omega
    have e6 : IntKind.i64.wrap (32 - ((n % 32 : Nat) : Int)) = ((32 - n % 32 : Nat) : Int) := by rw [wrap_i64 (by omega)]; omega
    obtain ⟨u1, u2, u3, u4, u5, u6, u7⟩ := up_digit hs (hd.get k) ⟨hc0, hc1⟩
    have hnew : dv (r ++ [c' + ms.getD k 0 % 2 ^ (32 - n % 32) * 2 ^ (n % 32)]) + ms.getD k 0 / 2 ^ (32 - n % 32) * bp (k + 1) = dv (ms.take (k + 1)) * 2 ^ (n % 32) := by
      have hrv : _ = _ := hrv
      rw [dv_snoc, hrl, dv_take_succ (by omega), Int.add_mul, ← hrv, bp_succ, Int.mul_assoc (bp k), u7, Int.mul_add, Int.mul_add, Int.mul_comm c']
      have : ms.getD k 0 / 2 ^ (32 - n % 32) * (4294967296 * bp k) = bp k * (ms.getD k 0 / 2 ^ (32 - n % 32) * 4294967296) := by
        rw [← Int.mul_assoc, Int.mul_comm]
      omega
    clear hrv u7
    repeat' first | (with_reducible (show W _ _ _ _ _); with_reducible refine go2 ?_) | (with_reducible (show W _ _ _ _ _); with_reducible refine sg2 ?_ ?_ <;> intro _) | (with_reducible (show W _ _ _ _ _); with_reducible refine sc2 ?_ ?_ <;> intro _) | ((with_reducible (show AppK _ _ _ _ _ _ _ _ _ _); with_reducible refine app_gw hC hG hlr hty ⟨by decide, rfl, by decide⟩ rfl rfl rfl ?_; rintro v' C' hC' hG'; refine ⟨held_none _ _ _, ?_⟩))
    exact ⟨j - 1, by omega, k + 1, _, r ++ [_], by omega, by rw [← List.append_assoc]; exact hG', ⟨by simp [hrl], D32.app.2 ⟨hrd, D32.cons.2 ⟨⟨u5, u6⟩, D32.nil⟩⟩, hnew, u3, u4⟩, rfl, rfl⟩
  · have hkL : k = L := by omega
    subst hkL
    repeat' first | (with_reducible (show W _ _ _ _ _); with_reducible refine go2 ?_) | (with_reducible (show W _ _ _ _ _); with_reducible refine sg2 ?_ ?_ <;> intro _) | (with_reducible (show W _ _ _ _ _); with_reducible refine sc2 ?_ ?_ <;> intro _) | ((with_reducible (show AppK _ _ _ _ _ _ _ _ _ _); with_reducible refine app_gw hC hG hlr hty ⟨by decide, rfl, by decide⟩ rfl rfl rfl ?_; rintro v' C' hC' hG'; refine ⟨held_none _ _ _, ?_⟩))
    have hrv : _ = _ := hrv
    refine ⟨_, hG', D32.app.2 ⟨D32.app.2 ⟨D32.rep _, hrd⟩, D32.cons.2 ⟨⟨hc0, ?_⟩, D32.nil⟩⟩, ?_, ?_⟩
    · have h2 := two32 (s := n % 32) (by omega)
      have h3 := tpos (32 - n % 32)
      have h4 := tpos (n % 32)
      have : (2 : Int) ^ (n % 32) * 1 ≤ 2 ^ (n % 32) * 2 ^ (32 - n % 32) := Int.mul_le_mul_of_nonneg_left (by omega) (by omega)
      omega
    · rw [List.append_assoc, dv_app, dv_rep, dv_snoc, hrl, List.length_replicate, Int.mul_comm (bp k) c', hrv, dv_take_all (by omega), bp_two, Int.zero_add, Int.mul_comm, Int.mul_assoc, ← Int.pow_add, Nat.mod_add_div]
    · rw [List.length_append, List.length_append, List.length_replicate, hrl]; rfl
end Go.Proofs.YtcikcinkjbbnhaaDoor.M
