/- house.Gen of a copy of any list: the ground for the law HouseGens. -/
import Derived.Test.YtcikcinkjbbnhaaDoorZ11
import Derived.Test.YtcikcinkjbbnhaaDoorC49
set_option linter.unusedSimpArgs false
set_option linter.unusedVariables false
set_option pp.deepTerms false
set_option pp.maxSteps 1500
set_option maxRecDepth 10000
set_option maxHeartbeats 4000000
namespace Go.Proofs.YtcikcinkjbbnhaaDoor.M
open Go Go.Proofs

/-- What a list tells of its object's cells. -/
theorem cells_of {ob : MO} {o : Nat} {xs : List Int} (h : ∀ i, i < xs.length → ob.cells[o + i]? = some (u64 (xs.getD i 0))) : (ob.cells.drop o).take xs.length = xs.map u64 ∧ (0 < xs.length → o + xs.length ≤ ob.cells.length) := by
  constructor
  · apply List.ext_getElem?
    intro i
    rw [List.getElem?_take]
    split
    · rename_i hi
      rw [List.getElem?_drop, h i hi]
      simp [List.getD_eq_getElem?_getD, hi]
    · rename_i hi
      rw [List.getElem?_eq_none (by simp; omega)]
  · intro h0
    have := h (xs.length - 1) (by omega)
    have := (List.getElem?_eq_some_iff.1 this).1
    omega
/-- A list appended to nothing: a copy. -/
theorem app_copy {P : Program} {Q : MQ} {H : MH} {v : MV} {xs : List Int} (hv : Sl H v xs) (ho : ∀ p o n c z, v = .slice p o n c z → o = 0) (hm : xs.length ≤ 1000000) {t : TypeId} {eb : Nat} {zs : List Value} {b : Bool} (ht : (ty P t).k = .slice 1 eb (some zs) b)
    (hz : 0 < eb ∧ zs.length = 1 ∧ eb ≤ 2 ^ 10) {c0 n0 n1 : Nat} {C2 : MH} (hn0 : n0 = H.length) (hn1 : n1 = H.length + 1) (hC2 : C2 = H ++ [some ⟨[], true⟩])
    {d L l F k ρ} (h : ∀ c, xs.length ≤ c → held P L (H ++ [none, some ⟨xs.map u64, true⟩]) F ∧ W P Q (.run l F :: k) (put ρ d (.slice (H.length + 1) 0 xs.length c 1)) (H ++ [none, some ⟨xs.map u64, true⟩])) :
    AppK P Q (appV P #[t, t] (.slice n0 0 0 c0 1) v C2) n1 d L l F k ρ := by
  subst hn0 hn1 hC2
  have hnw : hget (H ++ [some ⟨[], true⟩]) H.length = some ⟨[], true⟩ := hget_append_new
  have htl : tailV 1 v (H ++ [some ⟨[], true⟩]) = some (xs.map u64, xs.length) := by
    rcases hv with ⟨rfl, _, rfl⟩ | ⟨p, o, c, ob, rfl, hp, hcell⟩
    · rfl
    · have hp' : hget (H ++ [some ⟨[], true⟩]) p = some ob := (hget_old (lt_of_hget hp)).trans hp
      obtain ⟨h1, h2⟩ := cells_of hcell
      have h3 : o + xs.length ≤ ob.cells.length := by
        rcases Nat.eq_zero_or_pos xs.length with h0 | h0
        · have := ho _ _ _ _ _ rfl
          omega
        · exact h2 h0
      simp only [tailV, if_true, cellsAt_eq, hp', Nat.mul_one, Option.bind_some]
      rw [if_pos h3, h1]; rfl
  have hres : appV P #[t, t] (.slice H.length 0 0 c0 1) v (H ++ [some ⟨[], true⟩]) = some (some (xs.map u64, xs.length, 1), H ++ [none, some ⟨xs.map u64, true⟩]) := by
    refine appV_of ?_
    unfold appV0
    simp only [List.getElem?_toArray, List.getElem?_cons_zero, List.getElem?_cons_succ, ht, htl]
    have hall : (xs.map u64).all one = true := by
      rw [List.all_eq_true]; intro x hx
      obtain ⟨a, _, rfl⟩ := List.mem_map.1 hx
      rfl
    simp [hz, hnw, hall, show xs.length ≤ 68719476736 by omega]
  rw [hres]
  exact h
theorem hgen_nil {H : MH} {v : MV} {xs : List Int} (hv : Sl H v xs) (h0 : xs.length = 0) : Spec Tryd.prog 11 [v] H fun u H' => u = .tup [.agg [.lit (.slice none 0 0), u64 0], u64 0, u8 0, i64 4] ∧ H' = H := by
  have hlen := len22 hv
  have h1 : ((xs.length : Int) = 0) = True := eq_true (by omega)
  refine Spec.scalar (enterS Tryd.func11 [.cell 2 26, .tmp 3, .tmp 4, .tmp 5] ?_)
  repeat' first | (with_reducible (show W _ _ _ _ _); with_reducible refine go2 ?_) | (with_reducible (show W _ _ _ _ _); with_reducible refine sg2 ?_ ?_ <;> intro _) | (with_reducible (show W _ _ _ _ _); with_reducible refine sc2 ?_ ?_ <;> intro _) | (with_reducible (show W _ _ (.code (.region 12 _ true) :: _) _ _); with_reducible refine W_draw [(0, []), (1, []), (3, []), (4, []), (5, []), (2, [5]), (6, [5]), (7, []), (8, []), (9, [])] [5] (by kernel_rfl) ?_) | (with_reducible (show W _ _ (.code (.region 23 _ true) :: _) _ _); with_reducible refine W_draw [(0, []), (1, []), (2, []), (3, []), (4, [1]), (5, []), (6, []), (7, []), (8, [])] [1] (by kernel_rfl) ?_)
  all_goals trivial
/-- What a reflection's making answers, whatever list. -/
theorem hgen_any {H : MH} {p c : Nat} {xs : List Int} (hp : hget H p = some ⟨xs.map u64, true⟩) (hc : xs.length ≤ c) (hlen : xs.length ≤ 1000000) (h0 : 0 < xs.length) (hI : InD xs) :
    Spec Tryd.prog 11 [.slice p 0 xs.length c 1] H fun u H' => ∃ (vV : MV) (V : List Int) (tau b f e : Int), u = .tup [.agg [vV, u64 tau], u64 b, u8 f, i64 e] ∧ Old H H' ∧ Sl H' vV V ∧ one vV = true ∧
      ((finL xs = false ∧ e = 6 ∧ V = []) ∨ (finL xs = true ∧ e = 0 ∧ V = genV xs ∧ tau = genT xs ∧ b = (genK xs).1 ∧ f = (genK xs).2 ∧ ∃ p q, p < H'.length ∧ xs.length ≤ q ∧ vV = .slice p 0 xs.length q 1)) := by
  have hcell : ∀ i, i < xs.length → (xs.map u64)[0 + i]? = some (u64 (xs.getD i 0)) := fun i hi => by simp [List.getD_eq_getElem?_getD, hi]
  cases hf : finL xs
  · refine (hgen_bad (.inr ⟨p, 0, c, _, rfl, hp, hcell⟩) ⟨h0, hlen⟩ hf).mono ?_
    rintro u H' ⟨rfl, rfl⟩
    exact ⟨_, [], 0, _, 0, 6, rfl, Old.refl _, .inl ⟨rfl, none, rfl⟩, rfl, .inl ⟨rfl, rfl, rfl⟩⟩
  · refine (hgen_spec hp hcell hc ⟨h0, hlen⟩ hf hI).mono ?_
    rintro u H' ⟨q, hq, rfl, rfl⟩
    refine ⟨_, genV xs, _, _, _, 0, rfl, (Old.refl _).app _, .inr ⟨H.length, 0, q, _, by rw [genV_len h0], hget_new', fun i hi => by simp [List.getD_eq_getElem?_getD, hi]⟩, rfl, .inr ⟨rfl, rfl, rfl, rfl, rfl, rfl, H.length, q, by simp, hq, rfl⟩⟩
end Go.Proofs.YtcikcinkjbbnhaaDoor.M
