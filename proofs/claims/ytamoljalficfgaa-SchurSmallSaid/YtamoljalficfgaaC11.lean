/- What is written and what is left behind; matrices held against each other. -/
import Derived.Test.YtamoljalficfgaaC10
set_option linter.unusedSimpArgs false
set_option linter.unusedVariables false
set_option maxRecDepth 10000
set_option maxHeartbeats 4000000
namespace Go.Proofs.Ytamoljalficfgaa.M
open Go Go.Proofs

theorem hset_set {H : MH} {p : Nat} {x y : Option MO} : (H.set p x).set p y = H.set p y := List.set_set ..
/-- What lies behind is forgotten, what was written is not. -/
theorem Spec.wrote {P : Program} {f : FuncId} {args : List MV} {H : MH} {p : Nat} {o : MO} {r : MV} (ho : ∀ c ∈ o.cells, Cl 0 [] c) (hr : Cl 0 [] r) (h : Spec P f args H fun v H' => v = r ∧ ∃ J, H' = H.set p (some o) ++ J) : Spec P f args H fun v H' => v = r ∧ H' = H.set p (some o) := Spec.stored ho hr h
theorem hget_sa {H L : MH} {p : Nat} {x : Option MO} (h : p < H.length) : hget (H.set p x ++ L) p = x := by rw [hget_old (by rw [len_set]; exact h), hget_set_at h]
theorem Spec.junk {P : Program} {f : FuncId} {args : List MV} {H Hm : MH} {r : MV} (hl : Hm.length = H.length) (ho : ∀ p o, hget Hm p = some o → hget H p = some o ∨ ∀ c ∈ o.cells, Cl 0 [] c) (hr : Cl 0 [] r) (h : Spec P f args H fun v H' => v = r ∧ ∃ J, H' = Hm ++ J) : Spec P f args H fun v H' => v = r ∧ H' = Hm := by
  refine Spec.gc h ?_
  rintro v H1 ⟨rfl, J, rfl⟩
  exact ⟨Hm, J, [], rfl, hl, List.nodup_nil, by simp, ho, by simp, cl_mono (Nat.zero_le _) v hr, ren_free v hr, by simp⟩
theorem closed_u64 (D : List Int) : ∀ c ∈ D.map u64, Cl 0 [] c := by
  intro c hc
  simp only [List.mem_map] at hc
  obtain ⟨y, _, rfl⟩ := hc
  simp [Cl]
theorem set_or {H H0 : MH} {p : Nat} {x : MO} (h : ∀ q o, hget H0 q = some o → hget H q = some o ∨ ∀ c ∈ o.cells, Cl 0 [] c) (hx : ∀ c ∈ x.cells, Cl 0 [] c) : ∀ q o, hget (H0.set p (some x)) q = some o → hget H q = some o ∨ ∀ c ∈ o.cells, Cl 0 [] c := by
  intro q o hq
  by_cases e : p = q
  · subst e
    by_cases l : p < H0.length
    · rw [hget_set_same l] at hq
      cases hq
      exact .inr hx
    · rw [List.set_eq_of_length_le (by omega)] at hq
      exact h _ _ hq
  · rw [hget_set_ne e] at hq
    exact h _ _ hq

/-- Two matrices with the same numbers are the same. -/
theorem same_spec {r c : Int} {p q z y : Nat} {D : List Int} (h : MatOk r c D) {H : MH} {rw rw' : Bool} (hp : hget H p = some ⟨D.map u64, rw⟩) (hq : hget H q = some ⟨D.map u64, rw'⟩) {n : Nat} (hn : D.length = n) :
    Spec Try.prog 24 [mx r c c p n z, mx r c c q n y] H fun v H' => v = bl true ∧ H' = H := by
  have hpl := lt_of_hget hp
  have hql := lt_of_hget hq
  have hr := h.r1
  have hc := h.c1
  refine Spec.scalar (enterS Try.func24 [.tmp 4] ?_)
  repeat' first | (with_reducible (show W _ _ _ _ _); with_reducible refine go2 ?_) | (with_reducible (show W _ _ _ _ _); with_reducible refine sg2 ?_ ?_ <;> intro _) | (with_reducible (show W _ _ _ _ _); with_reducible refine sc2 ?_ ?_ <;> intro _) | (with_reducible (show W _ _ (.code (.region 9 _ true) :: _) _ _); with_reducible refine W_draw [(0, []), (1, []), (2, []), (4, []), (5, []), (6, []), (3, [4]), (7, []), (8, [])] [4] (by kernel_rfl) ?_)
  refine W_for (fun j ρ H' => ∃ k : Nat, k + j = r.toNat ∧ ρ 2 = .ptr H.length 0 ∧ ρ 3 = .ptr (H.length + 1) 0 ∧ ρ 20 = i64 r ∧ ρ 21 = i64 k ∧
    H' = H ++ [some ⟨[i64 r, i64 c, i64 c, .slice p 0 n z 1], true⟩, some ⟨[i64 r, i64 c, i64 c, .slice q 0 n y 1], true⟩]) r.toNat ?_ ?_
  · refine ⟨0, by omega, ?_⟩
    simp [put]
  · rintro j ρ H' ⟨k, hk, h2, h3, h20, h21, rfl⟩
    repeat' first | (with_reducible (show W _ _ _ _ _); with_reducible refine go2 ?_) | (with_reducible (show W _ _ _ _ _); with_reducible refine sg2 ?_ ?_ <;> intro _) | (with_reducible (show W _ _ _ _ _); with_reducible refine sc2 ?_ ?_ <;> intro _) | (with_reducible (show W _ _ (.code (.region 9 _ true) :: _) _ _); with_reducible refine W_draw [(0, []), (1, []), (2, []), (4, []), (5, []), (6, []), (3, [4]), (7, []), (8, [])] [4] (by kernel_rfl) ?_)
    · rename_i hlt
      refine W_for (fun j' ρ H' => ∃ k' : Nat, k' + j' = c.toNat ∧ ρ 2 = .ptr H.length 0 ∧ ρ 3 = .ptr (H.length + 1) 0 ∧ ρ 5 = i64 k ∧ ρ 20 = i64 r ∧ ρ 21 = i64 k ∧ ρ 25 = i64 c ∧ ρ 26 = i64 k' ∧
        H' = H ++ [some ⟨[i64 r, i64 c, i64 c, .slice p 0 n z 1], true⟩, some ⟨[i64 r, i64 c, i64 c, .slice q 0 n y 1], true⟩]) c.toNat ?_ ?_
      · refine ⟨0, by omega, ?_⟩
        simp [put, *]
      · clear h2 h3 h20 h21
        rintro j' ρ' H' ⟨k', hk', h2, h3, h5, h20, h21, h25, h26, rfl⟩
        repeat' first | (with_reducible (show W _ _ _ _ _); with_reducible refine go2 ?_) | (with_reducible (show W _ _ _ _ _); with_reducible refine sg2 ?_ ?_ <;> intro _) | (with_reducible (show W _ _ _ _ _); with_reducible refine sc2 ?_ ?_ <;> intro _) | (with_reducible (show CallK _ _ _ _ _ _ _ _ _ _ _); with_reducible refine ce2 (at_ok h _ _ ((hget_old hpl).trans hp) hn) ?_) | (with_reducible (show CallK _ _ _ _ _ _ _ _ _ _ _); with_reducible refine ce2 (at_ok h _ _ ((hget_old hql).trans hq) hn) ?_) | (with_reducible (show W _ _ (.code (.region 9 _ true) :: _) _ _); with_reducible refine W_draw [(0, []), (1, []), (2, []), (4, []), (5, []), (6, []), (3, [4]), (7, []), (8, [])] [4] (by kernel_rfl) ?_)
        · exact ⟨j' - 1, by omega, k' + 1, by omega, by rw [wrap_suc (by assumption) (by omega)]⟩
        · exact ⟨j - 1, by omega, k + 1, by omega, by rw [wrap_suc (by assumption) (by omega)]⟩
    · trivial
end Go.Proofs.Ytamoljalficfgaa.M
