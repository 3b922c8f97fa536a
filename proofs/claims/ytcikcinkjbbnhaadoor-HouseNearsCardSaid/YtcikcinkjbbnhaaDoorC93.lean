/- The law HouseNears, in the small machine. -/
import Derived.Test.YtcikcinkjbbnhaaDoorZ13
import Derived.Test.YtcikcinkjbbnhaaDoorC24
import Derived.Test.YtcikcinkjbbnhaaDoorC49
import Derived.Test.YtcikcinkjbbnhaaDoorJ
set_option linter.unusedSimpArgs false
set_option linter.unusedVariables false
set_option pp.deepTerms false
set_option pp.maxSteps 1500
set_option maxRecDepth 10000
set_option maxHeartbeats 4000000
namespace Go.Proofs.YtcikcinkjbbnhaaDoor.M
open Go Go.Proofs

theorem cap_of {μ : Mu} {u : MV} {k : IntKind} {w : World} {a : Option Addr} {len cap : Nat} {zs : List Int} (hc : conc μ u = .slice a len cap) (hw : IsRow k w a len cap zs) : ∀ p o n c z, u = .slice p o n c z → n ≤ c := by
  rintro p o n c z rfl
  simp only [conc, Value.slice.injEq] at hc
  obtain ⟨_, rfl, rfl⟩ := hc
  rcases hw with ⟨_, h1, h2, _⟩ | ⟨_, _, h, _⟩ <;> omega
theorem made13_spec {r c : Int} (hr : 0 ≤ r ∧ r ≤ 4096) (hc : 0 ≤ c ∧ c ≤ 4096) {v : MV} {xs : List Int} {H : MH} (hv : Sl H v xs) (hI : InD xs) {N : Nat} (hN : (r * c).toNat = N) :
    Spec Tryd.prog 29 [i64 r, i64 c, v] H fun u H' => ∃ D : List Int, (MatOk r c D ∧ InD D) ∧ u = mx r c c H.length N N ∧ H' = H ++ [some ⟨D.map u64, true⟩] := by
  have hlen22 := len22 hv
  have hia : ∀ j : Nat, j < xs.length → iaV (.slice 1 8 (some [.int .u64 0]) true) v (.lit (.int .i64 j)) = some (ixq v j) := fun j hj => hv.ia hj _ _ _ _
  have hld : ∀ (j : Nat) (L : MH), j < xs.length → loadV Tryd.prog 24 (ixq v j) (H ++ L) = some (u64 (xs.getD j 0)) := fun j L hj => (hv.app L).ld (by rw [ty_24]) (by rw [ty_24]) hj
  have hsq : 0 ≤ r * c ∧ r * c ≤ 4096 * 4096 := ⟨Int.mul_nonneg hr.1 hc.1, Int.mul_le_mul hr.2 hc.2 hc.1 (by omega)⟩
  refine Spec.oneE (T := List Int) (G := fun D => MatOk r c D ∧ InD D) (cs := fun D => D.map u64) (q := 1) (J := fun D => [some ⟨[i64 r, i64 c, i64 c, .slice (H.length + 1) 0 N N 1], true⟩, some ⟨D.map u64, true⟩, some ⟨[i64 r, i64 c, i64 c, .slice (H.length + 1) 0 N N 1], true⟩])
    (v := fun p => mx r c c p N N) (fun D => closed_u64 D) (fun p => by simp [Cl, Cls']) (fun π p _ => by simp [ren, rens]) (fun _ => rfl) ?_
  refine enterS Tryd.func29 [.cell 6 56] ?_
  repeat' first | (with_reducible (show W _ _ _ _ _); with_reducible refine go2 ?_) | (with_reducible (show W _ _ _ _ _); with_reducible refine sg2 ?_ ?_ <;> intro _) | (with_reducible (show W _ _ _ _ _); with_reducible refine sc2 ?_ ?_ <;> intro _) | (with_reducible (show W _ _ (.code (.region 6 _ true) :: _) _ _); with_reducible refine W_draw [(0, []), (1, []), (2, []), (3, []), (4, []), (5, []), (6, []), (7, []), (8, []), (9, []), (10, []), (11, [])] [] (by kernel_rfl) ?_) | ((with_reducible (show CallK _ _ _ _ _ _ _ _ _ _ _); with_reducible refine cm2 (new_spec r c hr hc _) ?_))
  refine W_for (fun j ρ H' => ∃ (k : Nat) (D : List Int), (MatOk r c D ∧ InD D) ∧ k + j = N ∧ ρ 2 = v ∧ ρ 6 = .ptr H.length 0 ∧ ρ 7 = .ptr (H.length + 2) 0 ∧ ρ 14 = i64 (N : Int) ∧ ρ 15 = i64 k ∧
    H' = H ++ [some ⟨[i64 0, i64 0, i64 0, .lit (.slice none 0 0)], true⟩, some ⟨D.map u64, true⟩, some ⟨[i64 r, i64 c, i64 c, .slice (H.length + 1) 0 N N 1], true⟩]) N ?_ ?_
  · refine ⟨0, List.replicate (r * c).toNat 0, ⟨MatOk.zero hr hc, InD.rep _⟩, by omega, ?_⟩
    simp [put, args0, hN]
  rintro j ρ H' ⟨k, D, ⟨ok, hD⟩, hk, h2, h6, h7, h14, h15, rfl⟩
  have hl := ok.len.trans hN
  have ht : ∀ a : Nat, (a : Int).tmod (xs.length : Int) = ((a % xs.length : Nat) : Int) := fun a => tmod_nat a _
  have hz : 0 < (xs.length : Int) → ((xs.length : Int) = 0) = False := fun h => eq_false (by omega)
  have hm : ∀ a : Nat, 0 < (xs.length : Int) → (a % xs.length < xs.length) = True := fun a h => eq_true (Nat.mod_lt a (by omega))
  have f3 : ∀ m : Nat, (0 ≤ (m : Int)) = True := fun m => eq_true (by omega)
  have f5 : ∀ m : Nat, (m : Int).toNat = m := fun m => Int.toNat_natCast m
  have f6 : ∀ m : Nat, m * 1 = m := Nat.mul_one
  have f8 : (k : Int) < N → (k + 1 ≤ (List.map u64 D).length) = True := fun h => eq_true (by rw [List.length_map, hl]; omega)
  repeat' first | (with_reducible (show W _ _ _ _ _); with_reducible refine go2 ?_) | (with_reducible (show W _ _ _ _ _); with_reducible refine sg2 ?_ ?_ <;> intro _) | (with_reducible (show W _ _ _ _ _); with_reducible refine sc2 ?_ ?_ <;> intro _) | (with_reducible (show W _ _ (.code (.region 6 _ true) :: _) _ _); with_reducible refine W_draw [(0, []), (1, []), (2, []), (3, []), (4, []), (5, []), (6, []), (7, []), (8, []), (9, []), (10, []), (11, [])] [] (by kernel_rfl) ?_)
  · refine ⟨j - 1, by omega, k + 1, D.set k (xs.getD (k % xs.length) 0), ⟨⟨ok.r0, ok.r1, ok.c0, ok.c1, by rw [List.length_set]; exact ok.len⟩, hD.set _ (getD_in hI _)⟩, by omega, by rw [wrap_suc (by assumption) (by omega)], ?_⟩
    rw [List.map_set]
  · exact ⟨j - 1, by omega, k + 1, D, ⟨ok, hD⟩, by omega, by rw [wrap_suc (by assumption) (by omega)], rfl⟩
  · exact ⟨D, ⟨ok, hD⟩, rfl⟩

theorem app_nl2 {P : Program} {Q : MQ} {H C : MH} (hC : Old H C) {v : MV} {qs : List Rat} {K : Int} (hx : Nl H C v qs K) (hm : qs.length ≤ 1000000) {t : TypeId} {eb : Nat} {zs : List Value} {b : Bool} (ht : (ty P t).k = .slice 3 eb (some zs) b)
    (hz : 0 < eb ∧ zs.length = 3 ∧ eb ≤ 2 ^ 10) {s : Bool} {sl : MV} {e : Int} {q : Rat} (hN : Num C s sl e q K) {c1 n0 n1 : Nat} {C2 : MH} (hn0 : n0 = C.length) (hn1 : n1 = C.length + 1) (hC2 : C2 = C ++ [some ⟨[bl s, sl, i64 e], true⟩])
    {d L l F k ρ} (h : ∀ v' C', Old H C' → Nl H C' v' (qs ++ [q]) K → (∀ s sl e q K, Num C s sl e q K → Num C' s sl e q K) → (∃ c', v' = .slice (C.length + 1) 0 (qs.length + 1) c' 3) → (∀ p o px c, v = .slice px 0 qs.length c 3 → p ≠ px → hget C p = some o → hget C' p = some o) → held P L C' F ∧ W P Q (.run l F :: k) (put ρ d v') C') :
    AppK P Q (appV P #[t, t] v (.slice n0 0 1 c1 3) C2) n1 d L l F k ρ := by
  subst hn0 hn1 hC2
  obtain ⟨px, c, cells, rfl, hmc, hpx, hcl, hnw, h1, hel⟩ := hx
  have hpl := lt_of_hget hpx
  have hnew : hget (C ++ [some ⟨[bl s, sl, i64 e], true⟩]) C.length = some ⟨[bl s, sl, i64 e], true⟩ := hget_append_new
  have hpo : hget (C ++ [some ⟨[bl s, sl, i64 e], true⟩]) px = some ⟨cells, true⟩ := (hget_old hpl).trans hpx
  have htl : tailV 3 (.slice C.length 0 1 c1 3) (C ++ [some ⟨[bl s, sl, i64 e], true⟩]) = some ([bl s, sl, i64 e], 1) := by
    simp only [tailV, if_true, cellsAt_eq, hnew]
    simp
  have hone := hN.one
  have hres : appV P #[t, t] (.slice px 0 qs.length c 3) (.slice C.length 0 1 c1 3) (C ++ [some ⟨[bl s, sl, i64 e], true⟩]) = some (some (cells ++ [bl s, sl, i64 e], qs.length + 1, 3), (C ++ [some (MO.mk [bl s, sl, i64 e] true)]).set px none ++ [some ⟨cells ++ [bl s, sl, i64 e], true⟩]) := by
    refine appV_of ?_
    unfold appV0
    simp only [List.getElem?_toArray, List.getElem?_cons_zero, List.getElem?_cons_succ, ht, htl]
    have hall : [bl s, sl, i64 e].all M.one = true := by
      show (M.one (bl s) && (M.one sl && (M.one (i64 e) && true))) = true
      rw [hone]; rfl
    rw [if_pos ⟨by decide, hz.1, hz.2.1, hall, hz.2.2⟩]
    simp [hpo, hcl, show qs.length + 1 ≤ 68719476736 by omega]
  rw [hres]
  simp only [AppK]
  intro c' hc'
  have hlen2 : ((C ++ [some (MO.mk [bl s, sl, i64 e] true)]).set px none).length = C.length + 1 := by simp
  have hkeep : ∀ s' sl' e' q' K', Num C s' sl' e' q' K' → Num ((C ++ [some (MO.mk [bl s, sl, i64 e] true)]).set px none ++ [some ⟨cells ++ [bl s, sl, i64 e], true⟩]) s' sl' e' q' K' := fun s' sl' e' q' K' hN' =>
    ((hN'.old ((Old.refl C).app _)).setW hpo hnw none).old ((Old.refl _).app _)
  refine h _ _ (((hC.app _).setq _ h1).app _) ⟨C.length + 1, c', cells ++ [bl s, sl, i64 e], by simp, by simpa using hc', ?_, by simp [hcl]; omega, hnw.app hN.now, by have := hC.1; omega, fun i hi => ?_⟩ hkeep ⟨c', by simp⟩ (fun p' o' px' cc hv' hne hp' => ?_)
  · rw [← hlen2]; exact hget_append_new
  · by_cases hin : i < qs.length
    · obtain ⟨s', sl', e', a, b⟩ := hel i hin
      refine ⟨s', sl', e', ?_, ?_⟩
      · rw [List.drop_append_of_le_length (by omega), List.take_append_of_le_length (by rw [List.length_drop]; omega)]; exact a
      · rw [List.getD_eq_getElem?_getD, List.getElem?_append_left hin, ← List.getD_eq_getElem?_getD]; exact hkeep _ _ _ _ _ b
    · have : i = qs.length := by simp at hi; omega
      subst this
      refine ⟨s, sl, e, ?_, ?_⟩
      · rw [List.drop_append, List.drop_of_length_le (by omega), hcl]
        simp
      · rw [List.getD_eq_getElem?_getD]
        simp
        exact hkeep _ _ _ _ _ hN
  · cases hv'
    have hpl' := lt_of_hget hp'
    rw [hget_old (by rw [hlen2]; omega), hget_set_ne (by omega), hget_old hpl']
    exact hp'
theorem Nl.keep {H C C' : MH} {p n c : Nat} {qs : List Rat} {K : Int} (h : Nl H C (.slice p 0 n c 3) qs K) (hN : ∀ s sl e q K, Num C s sl e q K → Num C' s sl e q K) (hp : ∀ o, hget C p = some o → hget C' p = some o) : Nl H C' (.slice p 0 n c 3) qs K := by
  obtain ⟨px, c2, cells, h1, h2, h3, h4, h5, h6, h7⟩ := h
  cases h1
  refine ⟨p, c, cells, rfl, h2, hp _ h3, h4, h5, h6, fun i hi => ?_⟩
  obtain ⟨s, sl, e, a, b⟩ := h7 i hi
  exact ⟨s, sl, e, a, hN _ _ _ _ _ b⟩
theorem Nl.lt {H C : MH} {p n c : Nat} {qs : List Rat} {K : Int} (h : Nl H C (.slice p 0 n c 3) qs K) : p < C.length := by
  obtain ⟨px, c2, cells, h1, h2, h3, _⟩ := h
  simp only [MV.slice.injEq] at h1
  obtain ⟨rfl, _⟩ := h1
  exact lt_of_hget h3
theorem and3 (n : Int) : 0 ≤ bits .and .i64 n 3 ∧ bits .and .i64 n 3 ≤ 3 := by
  unfold bits
  dsimp only
  rw [BitVec.toNat_and]
  have h : (BitVec.ofInt IntKind.i64.bits n).toNat &&& (BitVec.ofInt IntKind.i64.bits 3).toNat ≤ 3 := Nat.and_le_right
  rw [wrap_i64 (by omega)]
  omega
theorem gd0_of {f : Int} (h : bits .and .u8 f 22 = 0) : Gd0 f := by
  have hw : ∀ y : Nat, y < 256 → IntKind.u8.wrap (y : Int) = y := fun y hy => by simp [IntKind.wrap, IntKind.signed, IntKind.bits]; omega
  have e : bits .and .u8 f 22 = (((BitVec.ofInt 8 f &&& BitVec.ofInt 8 22).toNat : Nat) : Int) := hw _ (BitVec.isLt _)
  rw [e] at h
  have h2 : (BitVec.ofInt 8 f &&& BitVec.ofInt 8 22).toNat = 0 := by omega
  unfold Gd0
  apply BitVec.eq_of_toNat_eq
  exact h2
theorem finD_at {r c : Int} {D : List Int} (h : MatOk r c D) (hI : InD D) (hf : finD D = true) (i k : Nat) (hi : (i : Int) < r) (hk : (k : Int) < c) : Fn (atM r c c D i k) := by
  rw [atM_in' h hi hk]
  have := place_lt h.r0 h.c0 hi hk
  rw [← h.len] at this
  have hm := getD_mem' this
  exact ⟨hI _ hm, List.all_eq_true.1 hf _ hm⟩
theorem hnears {v x : MV} {xs ys : List Int} {H : MH} (hv : Sl H v xs) (hI : InD xs) (hcap : ∀ p o n c z, v = .slice p o n c z → n ≤ c) (m : Int) (hy : Sl H x ys) (hJ : InD ys) :
    Spec Tryd.prog 6 [v, i64 m, x] H fun u H' => u = bl true ∧ H' = H := by
  have hlv := len22 hv
  have hly := len22 hy
  refine Spec.scalar (enterS Tryd.func6 [.tmp 6] ?_)
  by_cases hl1 : 8 < (xs.length : Int)
  · repeat' first | (with_reducible (show W _ _ _ _ _); with_reducible refine go2 ?_) | (with_reducible (show W _ _ _ _ _); with_reducible refine sg2 ?_ ?_ <;> intro _) | (with_reducible (show W _ _ _ _ _); with_reducible refine sc2 ?_ ?_ <;> intro _) | (with_reducible (show CallK _ _ _ _ _ _ _ _ _ _ _); with_reducible refine ce2 (head13_spec _) ?_)
    all_goals trivial
  by_cases hl2 : 100 < (ys.length : Int)
  · repeat' first | (with_reducible (show W _ _ _ _ _); with_reducible refine go2 ?_) | (with_reducible (show W _ _ _ _ _); with_reducible refine sg2 ?_ ?_ <;> intro _) | (with_reducible (show W _ _ _ _ _); with_reducible refine sc2 ?_ ?_ <;> intro _) | (with_reducible (show CallK _ _ _ _ _ _ _ _ _ _ _); with_reducible refine ce2 (head13_spec _) ?_)
    all_goals trivial
  have hlen8 : xs.length ≤ 8 := by omega
  by_cases hbad : xs.length = 0 ∨ finL xs = false
  · repeat' first | (with_reducible (show W _ _ _ _ _); with_reducible refine go2 ?_) | (with_reducible (show W _ _ _ _ _); with_reducible refine sg2 ?_ ?_ <;> intro _) | (with_reducible (show W _ _ _ _ _); with_reducible refine sc2 ?_ ?_ <;> intro _) | (with_reducible (show CallK _ _ _ _ _ _ _ _ _ _ _); with_reducible refine ce2 (head13_spec _) ?_) | ((with_reducible (show CallK _ _ _ _ _ _ _ _ _ _ _); with_reducible refine cx2 (hgen_err hv (by omega) hbad) ?_; rintro u' H' ⟨⟨b, e⟩, he, rfl, rfl⟩; have he' : (e = 0) = False := eq_false he))
    all_goals trivial
  have hf : finL xs = true := by
    cases hh : finL xs
    · exact absurd (.inr hh) hbad
    · rfl
  have hy0 : 0 < xs.length := by
    rcases Nat.eq_zero_or_pos xs.length with h | h
    · exact absurd (.inl h) hbad
    · exact h
  clear hbad
  rcases hv with ⟨rfl, _⟩ | ⟨p, o, c, ob, rfl, hp, hcell⟩
  · simp at hy0
  have hc := hcap _ _ _ _ _ rfl
  have hlaw : Gn xs.length (genV xs) (genT xs) ∨ genT xs = 0 := by
    by_cases hB : genB xs = true
    · right
      unfold genT; rw [if_pos hB]
    · left
      exact gen_near (fun x hx => ⟨hI x hx, List.all_eq_true.1 hf x hx⟩) (by omega) (by simpa using hB)
  have hVl : (genV xs).length = xs.length := genV_len hy0
  have hVI := genV_in xs
  have hTI := genT_in xs
  have hgen := hgen_spec hp hcell hc ⟨hy0, by omega⟩ hf hI
  generalize genV xs = V at hlaw hVl hVI hgen
  generalize genT xs = tau at hlaw hTI hgen
  generalize genK xs = bb at hgen
  obtain ⟨n, hn⟩ : ∃ n, xs.length = n := ⟨_, rfl⟩
  rw [hn] at hl1 hlen8 hy0 hlaw hVl hgen hcell hlv hc ⊢
  have h3 := and3 m
  obtain ⟨w, hw⟩ : ∃ w, bits .and .i64 m 3 = w := ⟨_, rfl⟩
  rw [hw] at h3
  repeat' first | (with_reducible (show W _ _ _ _ _); with_reducible refine go2 ?_) | (with_reducible (show W _ _ _ _ _); with_reducible refine sg2 ?_ ?_ <;> intro _) | (with_reducible (show W _ _ _ _ _); with_reducible refine sc2 ?_ ?_ <;> intro _) | (with_reducible (show CallK _ _ _ _ _ _ _ _ _ _ _); with_reducible refine ce2 (head13_spec _) ?_)
  clear hl1
  (with_reducible (show CallK _ _ _ _ _ _ _ _ _ _ _)); with_reducible refine cx2 hgen ?_
  rintro u' H' ⟨q, hq, rfl, rfl⟩
  clear hgen
  repeat' first | (with_reducible (show W _ _ _ _ _); with_reducible refine go2 ?_) | (with_reducible (show W _ _ _ _ _); with_reducible refine sg2 ?_ ?_ <;> intro _)
  obtain ⟨N, hN⟩ : ∃ N, ((n : Int) * w).toNat = N := ⟨_, rfl⟩
  (with_reducible (show CallK _ _ _ _ _ _ _ _ _ _ _)); with_reducible refine cx2 (made13_spec (by omega) (by omega) (Sl.app hy _) hJ hN) ?_
  rintro u H' ⟨D, ⟨ok, hD⟩, rfl, rfl⟩
  have hl := ok.len.trans hN
  repeat' first | (with_reducible (show W _ _ _ _ _); with_reducible refine go2 ?_) | (with_reducible (show W _ _ _ _ _); with_reducible refine sg2 ?_ ?_ <;> intro _)
  obtain ⟨B, hB⟩ : ∃ B, H ++ [some ⟨V.map u64, true⟩, some ⟨[.slice H.length 0 n q 1, u64 tau], true⟩, some ⟨D.map u64, true⟩, some ⟨[i64 (n : Int), i64 w, i64 w, .slice (H.length + 2) 0 N N 1], true⟩, some ⟨[u8 0], true⟩] = B := ⟨_, rfl⟩
  have hBl : B.length = H.length + 5 := by rw [← hB]; simp
  have hHB : Old H B := by rw [← hB]; exact (Old.refl _).app _
  have bV : hget B H.length = some ⟨V.map u64, true⟩ := by rw [← hB]; exact hget_new'
  have bR : hget B (H.length + 1) = some ⟨[.slice H.length 0 n q 1, u64 tau], true⟩ := by rw [← hB]; exact hget_newL rfl
  have bD : hget B (H.length + 2) = some ⟨D.map u64, true⟩ := by rw [← hB]; exact hget_newL rfl
  have bM : hget B (H.length + 3) = some ⟨[i64 (n : Int), i64 w, i64 w, .slice (H.length + 2) 0 N N 1], true⟩ := by rw [← hB]; exact hget_newL rfl
  have bF : hget B (H.length + 4) = some ⟨[u8 0], true⟩ := by rw [← hB]; exact hget_newL rfl
  have hVs : ∀ C, hget C H.length = some ⟨V.map u64, true⟩ → Sl C (.slice H.length 0 n q 1) V := fun C hC => .inr ⟨H.length, 0, q, _, by rw [hVl], hC, fun i hi => by simp [List.getD_eq_getElem?_getD, hi]⟩
  have hrows : rowsB V.length (n : Int) 0 = true := by
    rw [hVl]
    simp only [rowsB, Bool.and_eq_true, decide_eq_true_eq]
    rw [wrap_i64 (by omega)]
    omega
  have hleft := left_p ok hD hl (z := N) bD (hVs B bV) hVI tau 0 hrows bF
  rw [show H ++ _ = B from hB]
  (with_reducible (show CallK _ _ _ _ _ _ _ _ _ _ _)); with_reducible refine cx2 hleft ?_
  have hLok := leftR_ok (V := V) (tau := tau) (m := 0) (S := (D, 0)) ⟨ok, hD⟩
  have hlaw2 := nears_law (tau := tau) ok hVl (by omega)
  generalize leftR (n : Int) w V tau 0 (D, 0) = R at hLok hlaw2
  rintro u E0 ⟨rfl, rfl⟩
  repeat' first | (with_reducible (show W _ _ _ _ _); with_reducible refine go2 ?_) | (with_reducible (show W _ _ _ _ _); with_reducible refine sg2 ?_ ?_ <;> intro _)
  obtain ⟨E, hE⟩ : ∃ E, B.set (H.length + 4) (some ⟨[u8 R.2], true⟩) ++ [some ⟨R.1.map u64, true⟩, some ⟨[i64 (n : Int), i64 w, i64 w, .slice (H.length + 5) 0 N N 1], true⟩] = E := ⟨_, rfl⟩
  have hEl : E.length = H.length + 7 := by rw [← hE]; simp [hBl]
  have hHE : Old H E := by rw [← hE]; exact ((hHB.setq _ (by omega)).app _)
  have oldE : ∀ p o, p ≠ H.length + 4 → hget B p = some o → hget E p = some o := fun p o hp ho => by
    have := lt_of_hget ho
    rw [← hE, hget_old (by rw [List.length_set]; omega), hget_set_ne (by omega)]; exact ho
  have eV := oldE _ _ (by omega) bV
  have eR := oldE _ _ (by omega) bR
  have eD := oldE _ _ (by omega) bD
  have eM := oldE _ _ (by omega) bM
  have eF : hget E (H.length + 4) = some ⟨[u8 R.2], true⟩ := by rw [← hE, hget_old (by rw [List.length_set]; omega)]; exact hget_set_same (by omega) _
  have eRM : hget E (H.length + 5) = some ⟨R.1.map u64, true⟩ := by
    rw [← hE]
    exact hget_newL' (by rw [List.length_set]; exact hBl)
  have eMR : hget E (H.length + 6) = some ⟨[i64 (n : Int), i64 w, i64 w, .slice (H.length + 5) 0 N N 1], true⟩ := by
    rw [← hE]
    exact hget_newL (n := H.length + 5) (i := 1) (by rw [List.length_set]; exact hBl)
  rw [hE]
  clear oldE bV bR bD bM bF hE hHB hBl hB hleft B
  obtain ⟨h1, hh1⟩ : ∃ h, H.length = h := ⟨_, rfl⟩
  rw [hh1] at hVs eV eR eD eM eF eRM eMR hEl ⊢
  refine goA2 ?_
  repeat' first | (with_reducible (show W _ _ _ _ _); with_reducible refine go2 ?_) | (with_reducible (show W _ _ _ _ _); with_reducible refine sg2 ?_ ?_ <;> intro _) | (with_reducible (show CallK _ _ _ _ _ _ _ _ _ _ _); with_reducible refine ce2 (finite_mspec ok hl eD) ?_)
  rotate_left
  · exact hHE.jk
  rename_i hfl
  have hgd : Gd0 R.2 := gd0_of (by simpa using hfl)
  (with_reducible refine sc2 ?_ ?_ <;> intro hfd)
  · repeat' first | (with_reducible (show W _ _ _ _ _); with_reducible refine go2 ?_) | (with_reducible (show W _ _ _ _ _); with_reducible refine sg2 ?_ ?_ <;> intro _)
    exact hHE.jk
  have hfin : finD D = true := by simpa using hfd
  have hnear := hlaw2 (fun i k hi hk => finD_at ok hD hfin i k hi hk) hTI hlaw hgd
  clear hfl hfd hlaw2 hgd
  obtain ⟨wn, rfl⟩ : ∃ wn : Nat, w = (wn : Int) := ⟨w.toNat, by omega⟩
  have hb0 := bsV_num0
  have hb1 := bsV_num
  have htyn : (ty Tryd.prog 31).k = .slice 3 40 (some [.bool false, .slice none 0 0, .int .i64 0]) false := by rw [ty_31]
  have hRl := hLok.1.len.trans hN
  repeat' first | (with_reducible (show W _ _ _ _ _); with_reducible refine go2 ?_) | (with_reducible (show W _ _ _ _ _); with_reducible refine sg2 ?_ ?_ <;> intro _)
  refine W_for (fun j ρ C => ∃ k : Nat, k + j = wn ∧ Old E C ∧ ρ 7 = .ptr (h1 + 1) 0 ∧ ρ 11 = i64 (n : Int) ∧ ρ 12 = .ptr (h1 + 3) 0 ∧ ρ 14 = .ptr (h1 + 6) 0 ∧ ρ 16 = i64 (k : Int)) wn ?_ ?_
  · exact ⟨0, by omega, Old.refl _, rfl, rfl, rfl, rfl, rfl⟩
  rintro j ρ C ⟨k, hk, hC, r7, r11, r12, r14, r16⟩
  have cM := hC.getO eM
  by_cases hlt : (k : Int) < (wn : Int)
  · have e1 : IntKind.i64.wrap ((k : Int) + 1) = ((k + 1 : Nat) : Int) := by rw [wrap_i64 (by omega)]; omega
    replace hnear : Hid2 _ := hnear k hlt
    repeat' first | (with_reducible (show W _ _ _ _ _); with_reducible refine go2 ?_) | (with_reducible (show W _ _ _ _ _); with_reducible refine sg2 ?_ ?_ <;> intro _)
    refine W_for (fun j' ρ' C' => ∃ i p1 c1 p2 c2 : Nat, i + j' = n ∧ Old C C' ∧ p1 ≠ p2 ∧ Nl C C' (.slice p1 0 i c1 3) (colQ (n : Int) (wn : Int) D k i) 1100 ∧ Nl C C' (.slice p2 0 i c2 3) (colQ (n : Int) (wn : Int) R.1 k i) 1100 ∧ ρ' 7 = .ptr (h1 + 1) 0 ∧ ρ' 11 = i64 (n : Int) ∧ ρ' 12 = .ptr (h1 + 3) 0 ∧ ρ' 14 = .ptr (h1 + 6) 0 ∧ ρ' 16 = i64 (k : Int) ∧ ρ' 17 = .slice p1 0 i c1 3 ∧ ρ' 18 = .slice p2 0 i c2 3 ∧ ρ' 19 = i64 (i : Int)) n ?_ ?_
    · refine ⟨0, C.length, _, C.length + 1, _, by omega, (Old.refl _).app _, by omega, ?_, ?_, r7, r11, r12, r14, r16, rfl, rfl, rfl⟩
      · exact Nl.nil _ (hget_new') (Nat.le_refl _)
      · exact Nl.nil _ (hget_newL rfl) (by omega)
    clear r7 r11 r12 r14 r16 cM
    rintro j' ρ' C' ⟨i, p1, c1, p2, c2, hi, hC', hne, hL1, hL2, r7, r11, r12, r14, r16, r17, r18, r19⟩
    have hEC := hC.trans hC'
    have cM := hEC.getO eM
    by_cases hlt2 : (i : Int) < (n : Int)
    · have e2 : IntKind.i64.wrap ((i : Int) + 1) = ((i + 1 : Nat) : Int) := by rw [wrap_i64 (by omega)]; omega
      have hs1 := colQ_succ (n : Int) (wn : Int) D k i
      have hs2 := colQ_succ (n : Int) (wn : Int) R.1 k i
      replace hs1 : Hid2 _ := hs1
      replace hs2 : Hid2 _ := hs2
      obtain ⟨x1, hx1⟩ : ∃ x1, atM (n : Int) wn wn D (i : Int) (k : Int) = x1 := ⟨_, rfl⟩
      obtain ⟨x2, hx2⟩ : ∃ x2, atM (n : Int) wn wn R.1 (i : Int) (k : Int) = x2 := ⟨_, rfl⟩
      have hi1 : InU x1 := by rw [← hx1]; exact atM_in hD _ _ _ _ _
      have hi2 : InU x2 := by rw [← hx2]; exact atM_in hLok.2 _ _ _ _ _
      have hat1 := fun C2 (h : Old E C2) => at_ok (z := N) ok (i : Int) (k : Int) (h.getO eD) hl
      have hat2 := fun C2 (h : Old E C2) => at_ok (z := N) hLok.1 (i : Int) (k : Int) (h.getO eRM) hRl
      rw [hx1] at hat1 hs1
      rw [hx2] at hat2 hs2
      clear hx1 hx2
      repeat' first | (with_reducible (show W _ _ _ _ _); with_reducible refine go2 ?_) | (with_reducible (show W _ _ _ _ _); with_reducible refine sg2 ?_ ?_ <;> intro _) | (with_reducible (show CallK _ _ _ _ _ _ _ _ _ _ _); with_reducible refine ce2 (hat1 _ hEC) ?_)
      (with_reducible (show CallK _ _ _ _ _ _ _ _ _ _ _)); with_reducible refine cx2 (exact13 hi1 _) ?_
      rintro w1 F1 ⟨hF1, s1, l1, y1, rfl, hN1⟩
      have ho1 := hN1.one
      repeat' first | (with_reducible (show W _ _ _ _ _); with_reducible refine go2 ?_) | (with_reducible (show W _ _ _ _ _); with_reducible refine sg2 ?_ ?_ <;> intro _)
      have hL2' := hL2.old hF1
      (with_reducible (show AppK _ _ _ _ _ _ _ _ _ _)); with_reducible refine app_nl2 (hC'.trans hF1) (hL1.old hF1) (by rw [colQ_len]; omega) htyn ⟨by decide, rfl, by decide⟩ hN1 rfl rfl rfl ?_
      intro v1 F2 hF2 hM1 hK1 hv1 hP1
      refine ⟨held_none _ _ _, ?_⟩
      rw [colQ_len] at hv1
      obtain ⟨c1', rfl⟩ := hv1
      rw [← show colQ (n : Int) (wn : Int) D k (i + 1) = _ from hs1] at hM1
      have hM2 := hL2'.keep hK1 (fun o ho => hP1 p2 o p1 c1 (by rw [colQ_len]) (Ne.symm hne) ho)
      have hEF2 := hC.trans hF2
      have cM2 := hEF2.getO eMR
      repeat' first | (with_reducible (show W _ _ _ _ _); with_reducible refine go2 ?_) | (with_reducible (show W _ _ _ _ _); with_reducible refine sg2 ?_ ?_ <;> intro _) | (with_reducible (show CallK _ _ _ _ _ _ _ _ _ _ _); with_reducible refine ce2 (hat2 _ hEF2) ?_)
      (with_reducible (show CallK _ _ _ _ _ _ _ _ _ _ _)); with_reducible refine cx2 (exact13 hi2 _) ?_
      rintro w3 F3 ⟨hF3, s3, l3, y3, rfl, hN3⟩
      have ho3 := hN3.one
      have hM1' := hM1.old hF3
      repeat' first | (with_reducible (show W _ _ _ _ _); with_reducible refine go2 ?_) | (with_reducible (show W _ _ _ _ _); with_reducible refine sg2 ?_ ?_ <;> intro _)
      (with_reducible (show AppK _ _ _ _ _ _ _ _ _ _)); with_reducible refine app_nl2 (hF2.trans hF3) (hM2.old hF3) (by rw [colQ_len]; omega) htyn ⟨by decide, rfl, by decide⟩ hN3 rfl rfl rfl ?_
      intro v2 F4 hF4 hM3 hK2 hv2 hP2
      refine ⟨held_none _ _ _, ?_⟩
      rw [colQ_len] at hv2
      obtain ⟨c2', rfl⟩ := hv2
      rw [← show colQ (n : Int) (wn : Int) R.1 k (i + 1) = _ from hs2] at hM3
      have hlt3 : F1.length + 1 ≠ p2 := by
        have := hL2'.lt
        omega
      have hM4 := hM1'.keep hK2 (fun o ho => hP2 _ o p2 c2 (by rw [colQ_len]) hlt3 ho)
      have hlt4 : F1.length + 1 ≠ F3.length + 1 := by
        have := hM1'.lt
        omega
      repeat' first | (with_reducible (show W _ _ _ _ _); with_reducible refine go2 ?_) | (with_reducible (show W _ _ _ _ _); with_reducible refine sg2 ?_ ?_ <;> intro _)
      all_goals first
        | exact ⟨j' - 1, by omega, i + 1, _, _, _, _, by omega, hlt4, hM4, hM3, rfl, rfl, rfl⟩
        | trace_state
    · have hin : i = n := by omega
      subst hin
      have hq2 : ((i : Int) + 8) * ((i : Int) + 8) ≤ 16 * 16 := Int.mul_le_mul (by omega) (by omega) (by omega) (by omega)
      have hq0 : 0 ≤ ((i : Int) + 8) * ((i : Int) + 8) := Int.mul_nonneg (by omega) (by omega)
      have hq3 : 64 * ((i : Int) + 8) * ((i : Int) + 8) = 64 * (((i : Int) + 8) * ((i : Int) + 8)) := Int.mul_assoc _ _ _
      have e4 : IntKind.i64.wrap ((i : Int) + 8) = (i : Int) + 8 := wrap_i64 (by omega)
      have e5 : IntKind.i64.wrap (64 * ((i : Int) + 8)) = 64 * ((i : Int) + 8) := wrap_i64 (by omega)
      have e6 : IntKind.i64.wrap (64 * ((i : Int) + 8) * ((i : Int) + 8)) = 64 * ((i : Int) + 8) * ((i : Int) + 8) := wrap_i64 (by rw [hq3]; omega)
      have hun : 0 ≤ 64 * ((i : Int) + 8) * ((i : Int) + 8) ∧ 64 * ((i : Int) + 8) * ((i : Int) + 8) ≤ 1000000000 := by rw [hq3]; omega
      clear hq2 hq0 hq3
      have cR := hEC.getO eR
      have cV := hEC.getO eV
      have ht1 := turned13 (hVs C' cV) hVI hTI hL1.any (by rw [colQ_len, hVl]) (by omega) (by decide)
      rw [hVl] at ht1
      repeat' first | (with_reducible (show W _ _ _ _ _); with_reducible refine go2 ?_) | (with_reducible (show W _ _ _ _ _); with_reducible refine sg2 ?_ ?_ <;> intro _)
      (with_reducible (show CallK _ _ _ _ _ _ _ _ _ _ _)); with_reducible refine cx2 ht1 ?_
      rintro w4 G4 ⟨hG4, hL4⟩
      have hLl := hL1.any.old hG4
      have hdt := dot13 hLl hLl (Nat.le_refl _) (by rw [colQ_len]; omega) (by decide) (by decide)
      rw [colQ_len] at hdt
      repeat' first | (with_reducible (show W _ _ _ _ _); with_reducible refine go2 ?_) | (with_reducible (show W _ _ _ _ _); with_reducible refine sg2 ?_ ?_ <;> intro _)
      (with_reducible (show CallK _ _ _ _ _ _ _ _ _ _ _)); with_reducible refine cx2 hdt ?_
      rintro w5 G5 ⟨hG5, s5, l5, y5, rfl, hN5⟩
      have hne2 := near13 (((hL2.any.old hG4).old hG5).mono (show (1100 : Int) ≤ 1100 + 5000 by decide)) ((hL4.any).old hG5) (by rw [turnR_len, colQ_len]; omega) (by rw [colQ_len]; omega) (units := 64 * ((i : Int) + 8) * ((i : Int) + 8)) hun hN5 (by decide) (by decide)
      have hres : nearB (colQ (i : Int) (wn : Int) R.1 k i) (turnR V tau (colQ (i : Int) (wn : Int) D k i) i) (64 * ((i : Int) + 8) * ((i : Int) + 8)) (dotR (colQ (i : Int) (wn : Int) D k i) (colQ (i : Int) (wn : Int) D k i) i) = true := by
        have hnear' : nearR _ _ _ _ := hnear
        simp [nearB, hnear']
      rw [hres] at hne2
      have hEG := hEC.trans (hG4.trans hG5)
      repeat' first | (with_reducible (show W _ _ _ _ _); with_reducible refine go2 ?_) | (with_reducible (show W _ _ _ _ _); with_reducible refine sg2 ?_ ?_ <;> intro _) | (with_reducible (show CallK _ _ _ _ _ _ _ _ _ _ _); with_reducible refine ce2 (hne2) ?_)
      all_goals first
        | exact ⟨j - 1, by omega, k + 1, by omega, rfl⟩
        | trace_state
  · repeat' first | (with_reducible (show W _ _ _ _ _); with_reducible refine go2 ?_) | (with_reducible (show W _ _ _ _ _); with_reducible refine sg2 ?_ ?_ <;> intro _)
    exact (hHE.trans hC).jk
end Go.Proofs.YtcikcinkjbbnhaaDoor.M
