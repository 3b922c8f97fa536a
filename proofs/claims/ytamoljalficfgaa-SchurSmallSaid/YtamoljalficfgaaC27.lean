/- Two matrices reflected; the reflection that does nothing. -/
import Derived.Test.YtamoljalficfgaaC26
set_option linter.unusedSimpArgs false
set_option linter.unusedVariables false
set_option maxRecDepth 10000
set_option maxHeartbeats 4000000
namespace Go.Proofs.Ytamoljalficfgaa.M
open Go Go.Proofs

/-- Two of the new objects are kept. -/
theorem Spec.two {P : Program} {f : FuncId} {args : List MV} {H : MH} {v : Nat → Nat → MV} {cs ds : List MV} {q s : Nat} {J : MH} (hqs : q ≠ s) (hcs : ∀ c ∈ cs, Cl 0 [] c) (hds : ∀ c ∈ ds, Cl 0 [] c) (hv : ∀ p p', Cl H.length [p, p'] (v p p'))
    (hr : ∀ π p p', H.length ≤ p → H.length ≤ p' → ren π (v p p') = v (π p) (π p')) (hq : J[q]? = some (some ⟨cs, true⟩)) (hs : J[s]? = some (some ⟨ds, true⟩)) (h : Spec P f args H fun u H' => u = v (H.length + q) (H.length + s) ∧ H' = H ++ J) :
    Spec P f args H fun u H' => u = v H.length (H.length + 1) ∧ H' = H ++ [some ⟨cs, true⟩, some ⟨ds, true⟩] := by
  refine Spec.gc h ?_
  rintro u H1 ⟨rfl, rfl⟩
  have hgx : ∀ x (o : MO), J[x]? = some (some o) → hget (H ++ J) (H.length + x) = some o := fun x o hx => by
    unfold hget
    rw [List.getElem?_append_right (by omega)]
    have : H.length + x - H.length = x := by omega
    rw [this, hx]; rfl
  have hg := hgx q _ hq
  have hg' := hgx s _ hs
  have hk : keep H.length [H.length + q, H.length + s] (H.length + q) = H.length := by
    unfold keep
    rw [if_neg (by omega)]
    simp
  have hk' : keep H.length [H.length + q, H.length + s] (H.length + s) = H.length + 1 := by
    unfold keep
    rw [if_neg (by omega)]
    have : (H.length + q == H.length + s) = false := by simp; omega
    simp [List.idxOf_cons, this]
  refine ⟨H, J, [H.length + q, H.length + s], rfl, rfl, by simp; omega, by simp, fun p o ho => .inl ho, ?_, hv _ _, ?_, ?_⟩
  · intro p hp o ho c hc
    simp only [List.mem_cons, List.not_mem_nil, or_false] at hp
    rcases hp with rfl | rfl
    · rw [hg] at ho
      cases ho
      exact cl_more (cl_more (cl_mono (Nat.zero_le H.length) c (hcs c hc)))
    · rw [hg'] at ho
      cases ho
      exact cl_more (cl_more (cl_mono (Nat.zero_le H.length) c (hds c hc)))
  · rw [hr _ _ _ (by omega) (by omega), hk, hk']
  · simp only [List.map_cons, List.map_nil, keptO, hg, hg', Option.map_some]
    congr 3
    · congr 1
      exact (List.map_congr_left fun c hc => ren_free c (hcs c hc)).trans (List.map_id' _)
    · congr 3
      exact (List.map_congr_left fun c hc => ren_free c (hds c hc)).trans (List.map_id' _)

theorem both_okG {n : Int} {p p' z z' : Nat} {D E : List Int} (h : MatOk n n D) (hI : InD D) (h' : MatOk n n E) (hI' : InD E) {v : MV} {V : List Int} {N : Nat} (hN : D.length = N) (hN' : E.length = N) {H : MH} {rw rw' : Bool} (hp : hget H p = some ⟨D.map u64, rw⟩) (hp' : hget H p' = some ⟨E.map u64, rw'⟩)
    (hv : Sl H v V) (hV : InD V) (tau m : Int) (hrows : rowsB V.length n m = true) :
    Spec Try.prog 37 [mx n n n p N z, mx n n n p' N z', .agg [v, u64 tau], i64 m] H fun u H' => u = .tup [mx n n n H.length N N, mx n n n (H.length + 1) N N] ∧
      H' = H ++ [some ⟨(rightR n n V tau m (leftR n n V tau m (D, 0))).1.map u64, true⟩, some ⟨(rightR n n V tau m (E, (rightR n n V tau m (leftR n n V tau m (D, 0))).2)).1.map u64, true⟩] := by
  have hpl := lt_of_hget hp
  have hpl' := lt_of_hget hp'
  have hX := leftR_ok (V := V) (tau := tau) (m := m) (S := (D, 0)) ⟨h, hI⟩
  have hX1 : MatOk n n (leftR n n V tau m (D, 0)).1 := hX.1
  have hX2 : InD (leftR n n V tau m (D, 0)).1 := hX.2
  have hXN : (leftR n n V tau m (D, 0)).1.length = N := by rw [hX1.len, ← h.len]; exact hN
  refine Spec.two (q := 8) (s := 10) (by decide) (v := fun p p' => .tup [mx n n n p N N, mx n n n p' N N]) (J := [some ⟨[i64 n, i64 n, i64 n, .slice p 0 N z 1], true⟩, some ⟨[i64 n, i64 n, i64 n, .slice p' 0 N z' 1], true⟩, some ⟨[v, u64 tau], true⟩,
    some ⟨[i64 n, i64 n, i64 n, .slice (H.length + 8) 0 N N 1], true⟩, some ⟨[i64 n, i64 n, i64 n, .slice (H.length + 10) 0 N N 1], true⟩, some ⟨[u8 (rightR n n V tau m (E, (rightR n n V tau m (leftR n n V tau m (D, 0))).2)).2], true⟩,
    some ⟨(leftR n n V tau m (D, 0)).1.map u64, true⟩, some ⟨[i64 n, i64 n, i64 n, .slice (H.length + 6) 0 N N 1], true⟩,
    some ⟨(rightR n n V tau m (leftR n n V tau m (D, 0))).1.map u64, true⟩, some ⟨[i64 n, i64 n, i64 n, .slice (H.length + 8) 0 N N 1], true⟩,
    some ⟨(rightR n n V tau m (E, (rightR n n V tau m (leftR n n V tau m (D, 0))).2)).1.map u64, true⟩, some ⟨[i64 n, i64 n, i64 n, .slice (H.length + 10) 0 N N 1], true⟩])
    (closed_u64 _) (closed_u64 _) (fun p p' => by simp [Cl, Cls']) (fun π p p' _ _ => by simp [ren, rens]) rfl rfl ?_
  refine enterS Try.func37 [.cell 8 26, .cell 9 26] ?_
  repeat' first | (with_reducible (show W _ _ _ _ _); with_reducible refine go2 ?_) | (with_reducible (show W _ _ _ _ _); with_reducible refine sg2 ?_ ?_ <;> intro _) | (with_reducible (show W _ _ _ _ _); with_reducible refine sc2 ?_ ?_ <;> intro _) | (with_reducible (show W _ _ (.code (.region 6 _ true) :: _) _ _); with_reducible refine W_draw [(0, []), (1, []), (2, [1]), (3, [])] [1] (by kernel_rfl) ?_) | (with_reducible (show W _ _ (.code (.region 7 _ true) :: _) _ _); with_reducible refine W_draw [(0, []), (1, []), (2, [1]), (3, [])] [1] (by kernel_rfl) ?_) | ((with_reducible (show CallK _ _ _ _ _ _ _ _ _ _ _); first | (with_reducible refine cm2 (left_p h hI hN ((hget_old hpl).trans hp) (hv.app _) hV _ _ hrows (hget_newL rfl)) ?_) | (with_reducible refine cm2 (right_p hX1 hX2 hXN (hget_newL rfl) (hv.app _) hV _ _ hrows (hget_newL rfl)) ?_) | (with_reducible refine cm2 (right_p h' hI' hN' ((hget_old hpl').trans hp') (hv.app _) hV _ _ hrows (hget_newL rfl)) ?_)))
  all_goals trivial

theorem both_ok {n : Int} {p p' z z' : Nat} {D E : List Int} (h : MatOk n n D) (hI : InD D) (h' : MatOk n n E) (hI' : InD E) {v : MV} {V : List Int} {N : Nat} (hN : D.length = N) (hN' : E.length = N) {H : MH} {rw rw' : Bool} (hp : hget H p = some ⟨D.map u64, rw⟩) (hp' : hget H p' = some ⟨E.map u64, rw'⟩)
    (hv : Sl H v V) (hV : InD V) (tau m : Int) (hrows : rowsB V.length n m = true) : ∃ g : Int,
    Spec Try.prog 37 [mx n n n p N z, mx n n n p' N z', .agg [v, u64 tau], i64 m] H fun u H' => u = .tup [mx n n n H.length N N, mx n n n (H.length + 1) N N] ∧
      H' = H ++ [some ⟨(rightR n n V tau m (leftR n n V tau m (D, 0))).1.map u64, true⟩, some ⟨(rightR n n V tau m (E, g)).1.map u64, true⟩] := ⟨_, both_okG h hI h' hI' hN hN' hp hp' hv hV tau m hrows⟩
theorem none_spec {n : Int} (hn : 0 < n ∧ n ≤ 1000000) {N : Nat} (hN : n.toNat = N) (H : MH) : Spec Try.prog 57 [i64 n] H fun u H' => u = .agg [.slice H.length 0 N N 1, u64 0] ∧ H' = H ++ [some ⟨((List.replicate N 0).set 0 4607182418800017408).map u64, true⟩] := by
  refine Spec.one (q := 1) (v := fun p => .agg [.slice p 0 N N 1, u64 0]) (J := [some ⟨[.slice (H.length + 1) 0 N N 1, u64 0], true⟩, some ⟨((List.replicate N 0).set 0 4607182418800017408).map u64, true⟩]) (closed_u64 _) (fun p => by simp [Cl, Cls']) (fun π p _ => by simp [ren, rens]) rfl ?_
  have hn1 : ¬ n < 0 := by omega
  have hn2 : 0 < n := hn.1
  have ms : msV (.slice 1 8 (some [.int .u64 0]) true) (i64 n) (i64 n) = some (List.replicate N (u64 0), N, 1) := by
    simp only [msV]
    rw [if_pos ⟨trivial, by omega, by omega, by omega, rfl⟩, Nat.mul_one, replicate_zero, hN]
  have hN1 : (0 < (N : Int)) = True := eq_true (by omega)
  have hN2 : (0 + 1 ≤ (List.replicate N (u64 0)).length) = True := eq_true (by rw [List.length_replicate]; omega)
  refine enterS Try.func57 [.cell 2 75] ?_
  repeat' first | (with_reducible (show W _ _ _ _ _); with_reducible refine go2 ?_) | (with_reducible (show W _ _ _ _ _); with_reducible refine sg2 ?_ ?_ <;> intro _) | (with_reducible (show W _ _ _ _ _); with_reducible refine sc2 ?_ ?_ <;> intro _)
  all_goals simp [List.map_set]

theorem great_zero : ∀ (l : List Int), (∀ x ∈ l, x = 0) → ∀ i best at_ : Int, best = 0 → (greatL l i best at_).1 = 0
  | [], _, i, best, at_, h => h
  | b :: l, hz, i, best, at_, h => by
    have hb : b = 0 := hz b (by simp)
    subst hb
    unfold greatL
    rw [if_neg (by decide)]
    split
    · exact great_zero l (fun x hx => hz x (by simp [hx])) _ _ _ (by decide)
    · exact great_zero l (fun x hx => hz x (by simp [hx])) _ _ _ h
theorem power_zero {l : List Int} (h : ∀ x ∈ l, x = 0) : powerM l = (0, false) := by
  unfold powerM greatM
  rw [great_zero l h 0 0 (-1) rfl]
  rfl
def genZ (N : Nat) : List Int := (List.replicate N 0).set 0 4607182418800017408
theorem gen_zero {p c : Nat} {xs : List Int} {H : MH} {rw : Bool} (hp : hget H p = some ⟨xs.map u64, rw⟩) (hlen : 1 < xs.length ∧ xs.length ≤ 1000000) {N : Nat} (hN : xs.length = N) (hNc : N ≤ c) (hfin : ∀ k, k < xs.length → finiteM (xs.getD k 0) = true) (hz : ∀ x ∈ xs.tail, x = 0) :
    Spec Try.prog 36 [.slice p 0 N c 1] H fun u H' => u = .tup [.agg [.slice H.length 0 N N 1, u64 0], u64 (xs.getD 0 0), u8 0, i64 0] ∧ H' = H ++ [some ⟨(genZ N).map u64, true⟩] := by
  have hpl := lt_of_hget hp
  have hcell : ∀ i, i < xs.length → (xs.map u64)[i]? = some (u64 (xs.getD i 0)) := fun i hi => by simp [List.getD_eq_getElem?_getD, hi]
  have hv : Sl H (.slice p 0 N c 1) xs := .inr ⟨p, 0, c, _, by rw [hN], hp, fun i hi => by rw [Nat.zero_add]; exact hcell i hi⟩
  have hv1 : Sl H (.slice p 1 (N - 1) (c - 1) 1) xs.tail := .inr ⟨p, 1, c - 1, _, by rw [List.length_tail, hN], hp, fun i hi => by
    rw [List.length_tail] at hi
    rw [Nat.add_comm, hcell (i + 1) (by omega)]
    simp [List.getD_eq_getElem?_getD]⟩
  have hl1 : xs.tail.length ≤ 1000000 := by rw [List.length_tail]; omega
  have hpz := power_zero hz
  have om : ∀ f : Operand → MV, Option.map f none = none := fun _ => _root_.id rfl
  have s1 : (1 ≤ (N : Int)) = True := eq_true (by omega)
  have s2 : (c = 1) = False := eq_false (by omega)
  have s3 : Int.toNat 1 = 1 := _root_.id rfl
  have s4 : ((0 : Int) ≤ 1) = True := eq_true (by decide)
  have hne : ((N : Int) = 0) = False := eq_false (by omega)
  refine Spec.one (q := 1) (v := fun p => .tup [.agg [.slice p 0 N N 1, u64 0], u64 (xs.getD 0 0), u8 0, i64 0]) (J := [some ⟨[.slice (H.length + 1) 0 N N 1, u64 0], true⟩, some ⟨(genZ N).map u64, true⟩]) (closed_u64 _) (fun p => by simp [Cl, Cls']) (fun π p _ => by simp [ren, rens]) rfl ?_
  refine enterS Try.func36 [.cell 2 75, .tmp 3, .tmp 4, .tmp 5] ?_
  repeat' first | (with_reducible (show W _ _ _ _ _); with_reducible refine go2 ?_) | (with_reducible (show W _ _ _ _ _); with_reducible refine sg2 ?_ ?_ <;> intro _) | (with_reducible (show W _ _ _ _ _); with_reducible refine sc2 ?_ ?_ <;> intro _) | (with_reducible (show W _ _ (.code (.region 12 _ true) :: _) _ _); with_reducible refine W_draw [(0, []), (1, []), (3, []), (4, []), (5, []), (2, [5]), (6, [5]), (7, []), (8, []), (9, [])] [5] (by kernel_rfl) ?_) | (with_reducible (show W _ _ (.code (.region 23 _ true) :: _) _ _); with_reducible refine W_draw [(0, []), (1, []), (2, []), (3, []), (4, [1]), (5, []), (6, []), (7, []), (8, [])] [1] (by kernel_rfl) ?_)
  refine W_for (fun j ρ H' => ∃ k : Nat, k + j = N ∧ ρ 0 = .slice p 0 N c 1 ∧ ρ 2 = .ptr H.length 0 ∧ ρ 25 = .slice p 0 N c 1 ∧ ρ 26 = i64 (N : Int) ∧ ρ 27 = i64 k ∧ H' = H ++ [some ⟨[.lit (.slice none 0 0), u64 0], true⟩]) N ?_ ?_
  · refine ⟨0, by omega, ?_⟩
    simp [put, args0]
  rintro j ρ H' ⟨k, hk, h0, h2, h25, h26, h27, rfl⟩
  have f3 : ∀ m : Nat, (0 ≤ (m : Int)) = True := fun m => eq_true (by omega)
  have f5 : ∀ m : Nat, (m : Int).toNat = m := fun m => Int.toNat_natCast m
  have f6 : ∀ m : Nat, m * 1 = m := Nat.mul_one
  have f7 : (k : Int) < N → (xs.map u64)[k]? = some (u64 (xs.getD k 0)) := fun h => hcell k (by omega)
  have f8 : (xs.map u64)[0]? = some (u64 (xs.getD 0 0)) := hcell 0 (by omega)
  have f9 : (k : Int) < N → finiteM (xs.getD k 0) = true := fun h => hfin k (by omega)
  have f10 : (0 < (N : Int)) = True := eq_true (by omega)
  repeat' first | (with_reducible (show W _ _ _ _ _); with_reducible refine go2 ?_) | (with_reducible (show W _ _ _ _ _); with_reducible refine sg2 ?_ ?_ <;> intro _) | (with_reducible (show W _ _ _ _ _); with_reducible refine sc2 ?_ ?_ <;> intro _) | (with_reducible (show CallK _ _ _ _ _ _ _ _ _ _ _); with_reducible refine ce2 (finite_spec _ _) ?_) | (with_reducible (show CallK _ _ _ _ _ _ _ _ _ _ _); with_reducible refine ce2 (power_spec (hv1.app _) hl1) ?_) | (with_reducible (show CallK _ _ _ _ _ _ _ _ _ _ _); with_reducible refine ce2 (power_spec (hv.app _) hlen.2) ?_) | (with_reducible (show W _ _ (.code (.region 12 _ true) :: _) _ _); with_reducible refine W_draw [(0, []), (1, []), (3, []), (4, []), (5, []), (2, [5]), (6, [5]), (7, []), (8, []), (9, [])] [5] (by kernel_rfl) ?_) | (with_reducible (show W _ _ (.code (.region 23 _ true) :: _) _ _); with_reducible refine W_draw [(0, []), (1, []), (2, []), (3, []), (4, [1]), (5, []), (6, []), (7, []), (8, [])] [1] (by kernel_rfl) ?_) | ((with_reducible (show CallK _ _ _ _ _ _ _ _ _ _ _); with_reducible refine cm2 (none_spec (n := (N : Int)) (N := N) (by omega) (by omega) _) ?_))
  · exact ⟨j - 1, by omega, k + 1, by omega, by rw [wrap_suc (n := (N : Int)) (by assumption) (by omega)]⟩
  all_goals rfl
end Go.Proofs.Ytamoljalficfgaa.M
