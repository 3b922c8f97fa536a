/- Lists of exact numbers. -/
import Derived.Test.YtcikcinkjbbnhaaDoorD11
set_option linter.unusedSimpArgs false
set_option linter.unusedVariables false
set_option pp.deepTerms false
set_option pp.maxSteps 1500
set_option maxRecDepth 10000
set_option maxHeartbeats 4000000
namespace Go.Proofs.YtcikcinkjbbnhaaDoor.M
open Go Go.Proofs

/-- No digit stands here. -/
def NoW (cells : List MV) : Prop := ∀ x ∈ cells, ∀ n, x ≠ w32 n
theorem NoW.app {a b : List MV} (ha : NoW a) (hb : NoW b) : NoW (a ++ b) := fun x hx => by
  rcases List.mem_append.1 hx with h | h
  · exact ha x h
  · exact hb x h
theorem Num.now {C : MH} {s sl e q K} (h : Num C s sl e q K) : NoW [bl s, sl, i64 e] := fun x hx n hn => by
  simp only [List.mem_cons, List.not_mem_nil, or_false] at hx
  rcases hx with rfl | rfl | rfl
  · cases hn
  · rcases h with ⟨_, h, _⟩ | ⟨ms, ⟨p, o, c, ob, h, _⟩, _⟩
    · rw [h] at hn; cases hn
    · rw [h] at hn; cases hn
  · cases hn
theorem Dg.setW {C : MH} {v : MV} {ms : List Int} (h : Dg C v ms) (hne : ms ≠ []) {q : Nat} {cells : List MV} {rw : Bool} (hq : hget C q = some ⟨cells, rw⟩) (hn : NoW cells) (x : Option MO) : Dg (C.set q x) v ms := by
  obtain ⟨p, o, c, ob, h1, h2, h3, h4⟩ := h
  refine ⟨p, o, c, ob, h1, (hget_set_ne (fun e => ?_) _).trans h2, h3, h4⟩
  subst e
  rw [hq] at h2
  cases h2
  have hl : 0 < ms.length := by
    cases ms with
    | nil => exact absurd rfl hne
    | cons => simp
  have h5 := h4 0 hl
  exact hn _ (List.mem_of_getElem? h5) _ rfl
theorem Num.setW {C : MH} {s sl e q K} (h : Num C s sl e q K) {r : Nat} {cells : List MV} {rw : Bool} (hq : hget C r = some ⟨cells, rw⟩) (hn : NoW cells) (x : Option MO) : Num (C.set r x) s sl e q K := by
  rcases h with h | ⟨ms, h1, h2, h3, h4⟩
  · exact .inl h
  · exact .inr ⟨ms, h1.setW h3.1 hq hn x, h2, h3, h4⟩
/-- A list of exact numbers in memory, laid behind what H is. -/
def Nl (H C : MH) (v : MV) (qs : List Rat) (K : Int) : Prop := ∃ px c cells, v = .slice px 0 qs.length c 3 ∧ qs.length ≤ c ∧ hget C px = some ⟨cells, true⟩ ∧ cells.length = qs.length * 3 ∧ NoW cells ∧ H.length ≤ px ∧
  ∀ i, i < qs.length → ∃ s sl e, (cells.drop (i * 3)).take 3 = [bl s, sl, i64 e] ∧ Num C s sl e (qs.getD i 0) K
theorem Nl.old {H C C' : MH} {v qs K} (h : Nl H C v qs K) (hC : Old C C') : Nl H C' v qs K := by
  obtain ⟨px, c, cells, h1, h2, h3, h4, h5, h6, h7⟩ := h
  refine ⟨px, c, cells, h1, h2, hC.getO h3, h4, h5, h6, fun i hi => ?_⟩
  obtain ⟨s, sl, e, a, b⟩ := h7 i hi
  exact ⟨s, sl, e, a, b.old hC⟩
theorem Nl.any {H C : MH} {v qs K} (h : Nl H C v qs K) : Nl [] C v qs K := by
  obtain ⟨px, c, cells, h1, h2, h3, h4, h5, h6, h7⟩ := h
  exact ⟨px, c, cells, h1, h2, h3, h4, h5, Nat.zero_le _, h7⟩
theorem Nl.mono {H C : MH} {v qs K K'} (h : Nl H C v qs K) (hK : K ≤ K') : Nl H C v qs K' := by
  obtain ⟨px, c, cells, h1, h2, h3, h4, h5, h6, h7⟩ := h
  refine ⟨px, c, cells, h1, h2, h3, h4, h5, h6, fun i hi => ?_⟩
  obtain ⟨s, sl, e, a, b⟩ := h7 i hi
  exact ⟨s, sl, e, a, b.mono hK⟩
theorem Nl.base {H H' C : MH} {v qs K} (h : Nl H C v qs K) (hl : H'.length ≤ H.length) : Nl H' C v qs K := by
  obtain ⟨px, c, cells, h1, h2, h3, h4, h5, h6, h7⟩ := h
  exact ⟨px, c, cells, h1, h2, h3, h4, h5, Nat.le_trans hl h6, h7⟩
theorem app_nl {P : Program} {Q : MQ} {H C : MH} (hC : Old H C) {v : MV} {qs : List Rat} {K : Int} (hx : Nl H C v qs K) (hm : qs.length ≤ 1000000) {t : TypeId} {eb : Nat} {zs : List Value} {b : Bool} (ht : (ty P t).k = .slice 3 eb (some zs) b)
    (hz : 0 < eb ∧ zs.length = 3 ∧ eb ≤ 2 ^ 10) {s : Bool} {sl : MV} {e : Int} {q : Rat} (hN : Num C s sl e q K) {c1 n0 n1 : Nat} {C2 : MH} (hn0 : n0 = C.length) (hn1 : n1 = C.length + 1) (hC2 : C2 = C ++ [some ⟨[bl s, sl, i64 e], true⟩])
    {d L l F k ρ} (h : ∀ v' C', Old H C' → Nl H C' v' (qs ++ [q]) K → (∀ s sl e q K, Num C s sl e q K → Num C' s sl e q K) → held P L C' F ∧ W P Q (.run l F :: k) (put ρ d v') C') :
    AppK P Q (appV P #[t, t] v (.slice n0 0 1 c1 3) C2) n1 d L l F k ρ := by
  subst hn0 hn1 hC2
  obtain ⟨px, c, cells, rfl, hmc, hpx, hcl, hnw, h1, hel⟩ := hx
  have hpl := lt_of_hget hpx
  have hnew : hget (C ++ [some ⟨[bl s, sl, i64 e], true⟩]) C.length = some ⟨[bl s, sl, i64 e], true⟩ := hget_append_new
  have hpo : hget (C ++ [some ⟨[bl s, sl, i64 e], true⟩]) px = some ⟨cells, true⟩ := (hget_old hpl).trans hpx
  have htl : tailV 3 (.slice C.length 0 1 c1 3) (C ++ [some ⟨[bl s, sl, i64 e], true⟩]) = some ([bl s, sl, i64 e], 1) := by
    simp only [tailV, if_true, cellsAt_eq, hnew]
    simp
  have hone := hN.one
  have hres : appV P #[t, t] (.slice px 0 qs.length c 3) (.slice C.length 0 1 c1 3) (C ++ [some ⟨[bl s, sl, i64 e], true⟩]) = some (some (cells ++ [bl s, sl, i64 e], qs.length + 1, 3), (C ++ [some (MO.mk [bl s, sl, i64 e] true)]).set px none ++ [some ⟨cells ++ [bl s, sl, i64 e], true⟩]) := by
    refine appV_of ?_
    unfold appV0
    simp only [List.getElem?_toArray, List.getElem?_cons_zero, List.getElem?_cons_succ, ht, htl]
    have hall : [bl s, sl, i64 e].all M.one = true := by
      show (M.one (bl s) && (M.one sl && (M.one (i64 e) && true))) = true
      rw [hone]; rfl
    rw [if_pos ⟨by decide, hz.1, hz.2.1, hall, hz.2.2⟩]
    simp [hpo, hcl, show qs.length + 1 ≤ 68719476736 by omega]
  rw [hres]
  simp only [AppK]
  intro c' hc'
  have hlen2 : ((C ++ [some (MO.mk [bl s, sl, i64 e] true)]).set px none).length = C.length + 1 := by simp
  have hkeep : ∀ s' sl' e' q' K', Num C s' sl' e' q' K' → Num ((C ++ [some (MO.mk [bl s, sl, i64 e] true)]).set px none ++ [some ⟨cells ++ [bl s, sl, i64 e], true⟩]) s' sl' e' q' K' := fun s' sl' e' q' K' hN' =>
    ((hN'.old ((Old.refl C).app _)).setW hpo hnw none).old ((Old.refl _).app _)
  refine h _ _ (((hC.app _).setq _ h1).app _) ⟨C.length + 1, c', cells ++ [bl s, sl, i64 e], by simp, by simpa using hc', ?_, by simp [hcl]; omega, hnw.app hN.now, by have := hC.1; omega, fun i hi => ?_⟩ hkeep
  · rw [← hlen2]; exact hget_append_new
  · by_cases hin : i < qs.length
    · obtain ⟨s', sl', e', a, b⟩ := hel i hin
      refine ⟨s', sl', e', ?_, ?_⟩
      · rw [List.drop_append_of_le_length (by omega), List.take_append_of_le_length (by rw [List.length_drop]; omega)]; exact a
      · rw [List.getD_eq_getElem?_getD, List.getElem?_append_left hin, ← List.getD_eq_getElem?_getD]; exact hkeep _ _ _ _ _ b
    · have : i = qs.length := by simp at hi; omega
      subst this
      refine ⟨s, sl, e, ?_, ?_⟩
      · rw [List.drop_append, List.drop_of_length_le (by omega), hcl]
        simp
      · rw [List.getD_eq_getElem?_getD]
        simp
        exact hkeep _ _ _ _ _ hN
end Go.Proofs.YtcikcinkjbbnhaaDoor.M
