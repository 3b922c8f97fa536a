/- A reflection of a matrix's rows, with nobody to remember; of its columns; both. -/
import Derived.Test.YtamoljalficfgaaC20
set_option linter.unusedSimpArgs false
set_option linter.unusedVariables false
set_option maxRecDepth 10000
set_option maxHeartbeats 4000000
namespace Go.Proofs.Ytamoljalficfgaa.M
open Go Go.Proofs

theorem left_nil {r c : Int} {p z : Nat} {D : List Int} (h : MatOk r c D) (hI : InD D) {v : MV} {V : List Int} {N : Nat} (hN : D.length = N) {H : MH} {rw : Bool} (hp : hget H p = some ⟨D.map u64, rw⟩) (hv : Sl H v V) (hV : InD V) (tau m : Int)
    (hrows : rowsB V.length r m = true) (htau : kindM tau ≠ 1) (g0 : Int) :
    Spec Try.prog 63 [.agg [v, u64 tau], nilp, mx r c c p N z, i64 m] H fun u H' => u = .tup [mx r c c H.length N N, i64 0] ∧ H' = H ++ [some ⟨(leftS r c V tau m c.toNat (D, g0)).1.map u64, true⟩] := by
  have hr : 0 ≤ r ∧ r ≤ 4096 := ⟨h.r0, h.r1⟩
  have hc : 0 ≤ c ∧ c ≤ 4096 := ⟨h.c0, h.c1⟩
  have hpl := lt_of_hget hp
  have hNN : (r * c).toNat = N := h.len.symm.trans hN
  have hm : 0 ≤ m ∧ (V.length : Int) ≤ r ∧ m ≤ r - V.length := by
    simp only [rowsB, Bool.and_eq_true, decide_eq_true_eq] at hrows
    have := hrows.2
    rw [wrap_i64 (by omega)] at this
    exact ⟨hrows.1.1, hrows.1.2, this⟩
  have hlen := len22 hv
  skip
  refine Spec.oneW (Hm := H) (v := fun p => .tup [mx r c c p N N, i64 0]) (q := 3) (J := [some ⟨[v, u64 tau], true⟩, some ⟨[i64 r, i64 c, i64 c, .slice p 0 N z 1], true⟩, some ⟨[i64 r, i64 c, i64 c, .slice (H.length + 3) 0 N N 1], true⟩,
    some ⟨(leftS r c V tau m c.toNat (D, g0)).1.map u64, true⟩, some ⟨[i64 r, i64 c, i64 c, .slice (H.length + 3) 0 N N 1], true⟩]) rfl (fun q o h => .inl h) (closed_u64 _) (fun p => by simp [Cl, Cls']) (fun π p _ => by simp [ren, rens]) rfl ?_
  refine enterS Try.func63 [.cell 8 26, .tmp 9] ?_
  repeat' first | (with_reducible (show W _ _ _ _ _); with_reducible refine go2 ?_) | (with_reducible (show W _ _ _ _ _); with_reducible refine sg2 ?_ ?_ <;> intro _) | (with_reducible (show W _ _ _ _ _); with_reducible refine sc2 ?_ ?_ <;> intro _) | (with_reducible (show CallK _ _ _ _ _ _ _ _ _ _ _); with_reducible refine ce2 (check_ok h hN _) ?_) | (with_reducible (show CallK _ _ _ _ _ _ _ _ _ _ _); with_reducible refine ce2 (rows_spec hv _ _ _ _) ?_) | (with_reducible (show CallK _ _ _ _ _ _ _ _ _ _ _); with_reducible refine ce2 (kind_spec _ _) ?_) | (with_reducible (show W _ _ (.code (.region 19 _ true) :: _) _ _); with_reducible refine W_draw [(0, []), (1, []), (2, []), (3, []), (4, []), (5, []), (6, []), (7, []), (8, []), (9, []), (10, []), (12, []), (13, []), (14, []), (11, [0]), (15, [0]), (16, [0]), (17, [])] [0] (by kernel_rfl) ?_) | ((with_reducible (show CallK _ _ _ _ _ _ _ _ _ _ _); with_reducible refine cm2 (clone_spec h hN ((hget_old hpl).trans hp)) ?_))
  refine W_for (fun j ρ H' => ∃ k : Nat, k + j = c.toNat ∧ ρ 1 = nilp ∧ ρ 3 = i64 m ∧ ρ 4 = .ptr H.length 0 ∧ ρ 8 = .ptr (H.length + 2) 0 ∧ ρ 10 = .ptr (H.length + 4) 0 ∧ ρ 37 = i64 c ∧ ρ 38 = i64 k ∧
    H' = H ++ [some ⟨[v, u64 tau], true⟩, some ⟨[i64 r, i64 c, i64 c, .slice p 0 N z 1], true⟩, some ⟨[i64 0, i64 0, i64 0, .lit (.slice none 0 0)], true⟩, some ⟨(leftS r c V tau m k (D, g0)).1.map u64, true⟩, some ⟨[i64 r, i64 c, i64 c, .slice (H.length + 3) 0 N N 1], true⟩]) c.toNat ?_ ?_
  · refine ⟨0, by omega, ?_⟩
    simp [put, args0, leftS, iter, List.append_nil]
  rintro j ρ H' ⟨k, hk, h1, h3, h4, h8, h10, h37, h38, rfl⟩
  have hS := leftS_ok (V := V) (tau := tau) (m := m) (S := (D, g0)) ⟨h, hI⟩ k
  generalize hSe : leftS r c V tau m k (D, g0) = S at hS
  have hSl := hS.1.len.trans hNN
  have hS1 : MatOk r c S.1 := hS.1
  repeat' first | (with_reducible (show W _ _ _ _ _); with_reducible refine go2 ?_) | (with_reducible (show W _ _ _ _ _); with_reducible refine sg2 ?_ ?_ <;> intro _) | (with_reducible (show W _ _ _ _ _); with_reducible refine sc2 ?_ ?_ <;> intro _) | (with_reducible (show W _ _ (.code (.region 19 _ true) :: _) _ _); with_reducible refine W_draw [(0, []), (1, []), (2, []), (3, []), (4, []), (5, []), (6, []), (7, []), (8, []), (9, []), (10, []), (12, []), (13, []), (14, []), (11, [0]), (15, [0]), (16, [0]), (17, [])] [0] (by kernel_rfl) ?_)
  · rename_i hklt
    refine W_for (fun j' ρ H' => ∃ i : Nat, i + j' = V.length ∧ ρ 1 = nilp ∧ ρ 3 = i64 m ∧ ρ 4 = .ptr H.length 0 ∧ ρ 8 = .ptr (H.length + 2) 0 ∧ ρ 10 = .ptr (H.length + 4) 0 ∧ ρ 11 = i64 k ∧ ρ 12 = u64 (sumS V (fun i => atM r c c S.1 (m + i) k) S.2 i).1 ∧ ρ 37 = i64 c ∧ ρ 38 = i64 k ∧ ρ 42 = v ∧ ρ 43 = i64 (V.length : Int) ∧ ρ 44 = i64 i ∧
      H' = H ++ [some ⟨[v, u64 tau], true⟩, some ⟨[i64 r, i64 c, i64 c, .slice p 0 N z 1], true⟩, some ⟨[i64 0, i64 0, i64 0, .lit (.slice none 0 0)], true⟩, some ⟨S.1.map u64, true⟩, some ⟨[i64 r, i64 c, i64 c, .slice (H.length + 3) 0 N N 1], true⟩]) V.length ?_ ?_
    · refine ⟨0, by omega, ?_⟩
      simp [put, sumS, iter, *]
    clear h1 h3 h4 h8 h10 h37 h38
    rintro j' ρ' H' ⟨i, hi, h1, h3, h4, h8, h10, h11, h12, h37, h38, h42, h43, h44, rfl⟩
    have hsi := sumS_in V (fun i => atM r c c S.1 (m + i) k) S.2 i
    have hmi : (i : Int) < V.length → IntKind.i64.wrap (m + i) = m + i := fun h => wrap_i64 (by omega)
    have hia2 : (i : Int) < V.length → iaV (.slice 1 8 (some [.int .u64 0]) true) v (.lit (.int .i64 i)) = some (ixq v i) := fun h => hv.ia (by omega) _ _ _ _
    have hld2 : ∀ (L : MH), (i : Int) < V.length → loadV Try.prog 23 (ixq v i) (H ++ L) = some (u64 (V.getD i 0)) := fun L h => (hv.app L).ld (by rw [ty_23]) (by rw [ty_23]) (by omega)
    repeat' first | (with_reducible (show W _ _ _ _ _); with_reducible refine go2 ?_) | (with_reducible (show W _ _ _ _ _); with_reducible refine sg2 ?_ ?_ <;> intro _) | (with_reducible (show W _ _ _ _ _); with_reducible refine sc2 ?_ ?_ <;> intro _) | (with_reducible (show CallK _ _ _ _ _ _ _ _ _ _ _); with_reducible refine ce2 (at_ok hS1 _ _ (hget_newL rfl) hSl) ?_) | (with_reducible (show CallK _ _ _ _ _ _ _ _ _ _ _); with_reducible refine ce2 (cmul_nil _ _ _) ?_) | (with_reducible (show CallK _ _ _ _ _ _ _ _ _ _ _); with_reducible refine ce2 (cadd_nil hsi (mulM_in _ _) _) ?_) | (with_reducible (show W _ _ (.code (.region 19 _ true) :: _) _ _); with_reducible refine W_draw [(0, []), (1, []), (2, []), (3, []), (4, []), (5, []), (6, []), (7, []), (8, []), (9, []), (10, []), (12, []), (13, []), (14, []), (11, [0]), (15, [0]), (16, [0]), (17, [])] [0] (by kernel_rfl) ?_)
    · exact ⟨j' - 1, by omega, i + 1, by omega, rfl, by rw [wrap_suc (n := (V.length : Int)) (by assumption) (by omega)]⟩
    have hiv : i = V.length := by omega
    subst hiv
    clear h42 h43 h44 hi hmi hia2 hld2
    have hpe : ∀ (S' : List Int × Int) (t : Int), putS r c V m k t S' 0 = S' := fun _ _ => rfl
    refine W_for (fun j' ρ H' => ∃ i : Nat, i + j' = V.length ∧ ρ 1 = nilp ∧ ρ 3 = i64 m ∧ ρ 4 = .ptr H.length 0 ∧ ρ 8 = .ptr (H.length + 2) 0 ∧ ρ 10 = .ptr (H.length + 4) 0 ∧ ρ 11 = i64 k ∧ ρ 12 = u64 (mulM tau (sumS V (fun i => atM r c c S.1 (m + i) k) S.2 V.length).1).1 ∧ ρ 37 = i64 c ∧ ρ 38 = i64 k ∧ ρ 68 = v ∧ ρ 69 = i64 (V.length : Int) ∧ ρ 70 = i64 i ∧
      H' = H ++
        [some ⟨[v, u64 tau], true⟩, some ⟨[i64 r, i64 c, i64 c, .slice p 0 N z 1], true⟩, some ⟨[i64 0, i64 0, i64 0, .lit (.slice none 0 0)], true⟩, some ⟨(putS r c V m k (mulM tau (sumS V (fun i => atM r c c S.1 (m + i) k) S.2 V.length).1).1 (S.1, bits .or .u8 (sumS V (fun i => atM r c c S.1 (m + i) k) S.2 V.length).2 (mulM tau (sumS V (fun i => atM r c c S.1 (m + i) k) S.2 V.length).1).2) i).1.map u64, true⟩, some ⟨[i64 r, i64 c, i64 c, .slice (H.length + 3) 0 N N 1], true⟩]) V.length ?_ ?_
    · refine ⟨0, by omega, ?_⟩
      simp [put, hpe, *]
    clear h1 h3 h4 h8 h10 h11 h12 h37 h38
    rintro j'' ρ'' H' ⟨i, hi, h1, h3, h4, h8, h10, h11, h12, h37, h38, h68, h69, h70, rfl⟩
    have hT := putS_ok (V := V) (m := m) (k := k) (t := (mulM tau (sumS V (fun i => atM r c c S.1 (m + i) k) S.2 V.length).1).1) (S := (S.1, bits .or .u8 (sumS V (fun i => atM r c c S.1 (m + i) k) S.2 V.length).2 (mulM tau (sumS V (fun i => atM r c c S.1 (m + i) k) S.2 V.length).1).2)) hS i
    have hcol : i = V.length → putS r c V m k (mulM tau (sumS V (fun i => atM r c c S.1 (m + i) k) S.2 V.length).1).1 (S.1, bits .or .u8 (sumS V (fun i => atM r c c S.1 (m + i) k) S.2 V.length).2 (mulM tau (sumS V (fun i => atM r c c S.1 (m + i) k) S.2 V.length).1).2) i = leftS r c V tau m (k + 1) (D, g0) := by
      intro hiv
      subst hiv
      rw [← hSe]; rfl
    have hstep := putS_succ r c V m k (mulM tau (sumS V (fun i => atM r c c S.1 (m + i) k) S.2 V.length).1).1 (S.1, bits .or .u8 (sumS V (fun i => atM r c c S.1 (m + i) k) S.2 V.length).2 (mulM tau (sumS V (fun i => atM r c c S.1 (m + i) k) S.2 V.length).1).2) i
    generalize putS r c V m k (mulM tau (sumS V (fun i => atM r c c S.1 (m + i) k) S.2 V.length).1).1 (S.1, bits .or .u8 (sumS V (fun i => atM r c c S.1 (m + i) k) S.2 V.length).2 (mulM tau (sumS V (fun i => atM r c c S.1 (m + i) k) S.2 V.length).1).2) i = T at hT hcol hstep
    have hTl := hT.1.len.trans hNN
    have hT1 : MatOk r c T.1 := hT.1
    have hat := fun i k => atM_in hT.2 r c c i k
    have hmi : (i : Int) < V.length → IntKind.i64.wrap (m + i) = m + i := fun h => wrap_i64 (by omega)
    have hia2 : (i : Int) < V.length → iaV (.slice 1 8 (some [.int .u64 0]) true) v (.lit (.int .i64 i)) = some (ixq v i) := fun h => hv.ia (by omega) _ _ _ _
    have hld2 : ∀ (L : MH), (i : Int) < V.length → loadV Try.prog 23 (ixq v i) (H ++ L) = some (u64 (V.getD i 0)) := fun L h => (hv.app L).ld (by rw [ty_23]) (by rw [ty_23]) (by omega)
    repeat' first | (with_reducible (show W _ _ _ _ _); with_reducible refine go2 ?_) | (with_reducible (show W _ _ _ _ _); with_reducible refine sg2 ?_ ?_ <;> intro _) | (with_reducible (show W _ _ _ _ _); with_reducible refine sc2 ?_ ?_ <;> intro _) | (with_reducible (show CallK _ _ _ _ _ _ _ _ _ _ _); with_reducible refine ce2 (at_ok hT1 _ _ (hget_newL rfl) hTl) ?_) | (with_reducible (show CallK _ _ _ _ _ _ _ _ _ _ _); with_reducible refine ce2 (cmul_nil _ _ _) ?_) | (with_reducible (show CallK _ _ _ _ _ _ _ _ _ _ _); with_reducible refine ce2 (cadd_nil hsi (mulM_in _ _) _) ?_) | (with_reducible (show W _ _ (.code (.region 19 _ true) :: _) _ _); with_reducible refine W_draw [(0, []), (1, []), (2, []), (3, []), (4, []), (5, []), (6, []), (7, []), (8, []), (9, []), (10, []), (12, []), (13, []), (14, []), (11, [0]), (15, [0]), (16, [0]), (17, [])] [0] (by kernel_rfl) ?_) | ((with_reducible (show CallK _ _ _ _ _ _ _ _ _ _ _); first | (with_reducible refine cm2 (csub_nil (hat _ _) _ _) ?_) | (with_reducible refine cm2 (set_ok hT1 _ _ _ (hget_newL rfl) hTl) ?_)))
    · refine ⟨j'' - 1, by omega, i + 1, by omega, by rw [wrap_suc (n := (V.length : Int)) (by assumption) (by omega)], ?_⟩
      rw [hstep]
    · have e := hcol (by omega)
      subst e
      exact ⟨j - 1, by omega, k + 1, by omega, by rw [wrap_suc (by assumption) (by omega)], rfl⟩
  · have : k = c.toNat := by omega
    subst this
    rw [hSe]

abbrev mx0 : MV := .agg [i64 0, i64 0, i64 0, .lit (.slice none 0 0)]
/-- What doesn't fit. -/
theorem left_bad {r c : Int} {p z : Nat} {D : List Int} (h : MatOk r c D) {v : MV} {V : List Int} {N : Nat} (hN : D.length = N) {H : MH} (cp : MV) (hv : Sl H v V) (tau m : Int) (hrows : rowsB V.length r m = false) :
    Spec Try.prog 63 [.agg [v, u64 tau], cp, mx r c c p N z, i64 m] H fun u H' => u = .tup [mx0, i64 4] ∧ H' = H := by
  refine Spec.scalar (enterS Try.func63 [.cell 8 26, .tmp 9] ?_)
  repeat' first | (with_reducible (show W _ _ _ _ _); with_reducible refine go2 ?_) | (with_reducible (show W _ _ _ _ _); with_reducible refine sg2 ?_ ?_ <;> intro _) | (with_reducible (show W _ _ _ _ _); with_reducible refine sc2 ?_ ?_ <;> intro _) | (with_reducible (show CallK _ _ _ _ _ _ _ _ _ _ _); with_reducible refine ce2 (check_ok h hN _) ?_) | (with_reducible (show CallK _ _ _ _ _ _ _ _ _ _ _); with_reducible refine ce2 (rows_spec hv _ _ _ _) ?_) | (with_reducible (show W _ _ (.code (.region 19 _ true) :: _) _ _); with_reducible refine W_draw [(0, []), (1, []), (2, []), (3, []), (4, []), (5, []), (6, []), (7, []), (8, []), (9, []), (10, []), (12, []), (13, []), (14, []), (11, [0]), (15, [0]), (16, [0]), (17, [])] [0] (by kernel_rfl) ?_)
  all_goals trivial
theorem right_bad {r c : Int} {p z : Nat} {D : List Int} (h : MatOk r c D) {v : MV} {V : List Int} {N : Nat} (hN : D.length = N) {H : MH} (cp : MV) (hv : Sl H v V) (tau m : Int) (hrows : rowsB V.length c m = false) :
    Spec Try.prog 64 [.agg [v, u64 tau], cp, mx r c c p N z, i64 m] H fun u H' => u = .tup [mx0, i64 4] ∧ H' = H := by
  refine Spec.scalar (enterS Try.func64 [.cell 8 26, .tmp 9] ?_)
  repeat' first | (with_reducible (show W _ _ _ _ _); with_reducible refine go2 ?_) | (with_reducible (show W _ _ _ _ _); with_reducible refine sg2 ?_ ?_ <;> intro _) | (with_reducible (show W _ _ _ _ _); with_reducible refine sc2 ?_ ?_ <;> intro _) | (with_reducible (show CallK _ _ _ _ _ _ _ _ _ _ _); with_reducible refine ce2 (check_ok h hN _) ?_) | (with_reducible (show CallK _ _ _ _ _ _ _ _ _ _ _); with_reducible refine ce2 (rows_spec hv _ _ _ _) ?_) | (with_reducible (show W _ _ (.code (.region 3 _ true) :: _) _ _); with_reducible refine W_draw [(0, []), (1, []), (2, []), (4, []), (9, []), (3, [0, 9]), (5, [9]), (6, []), (7, []), (8, []), (10, []), (11, [])] [0, 9] (by kernel_rfl) ?_)
  all_goals trivial

/-- A reflection, or none. -/
def leftR (r c : Int) (V : List Int) (tau m : Int) (S : List Int × Int) : List Int × Int := if kindM tau = 1 then S else leftS r c V tau m c.toNat S
theorem leftR_ok {r c : Int} {V : List Int} {tau m : Int} {S : List Int × Int} (h : SOk r c S) : SOk r c (leftR r c V tau m S) := by
  unfold leftR
  split
  · exact h
  · exact leftS_ok h _
theorem left_zero {r c : Int} {p z : Nat} {D : List Int} (h : MatOk r c D) {v : MV} {V : List Int} {N : Nat} (hN : D.length = N) {H : MH} {rw : Bool} (hp : hget H p = some ⟨D.map u64, rw⟩) (cp : MV) (hv : Sl H v V) (tau m : Int) (hrows : rowsB V.length r m = true) (htau : kindM tau = 1) :
    Spec Try.prog 63 [.agg [v, u64 tau], cp, mx r c c p N z, i64 m] H fun u H' => u = .tup [mx r c c H.length N N, i64 0] ∧ H' = H ++ [some ⟨D.map u64, true⟩] := by
  have hpl := lt_of_hget hp
  refine Spec.oneW (Hm := H) (v := fun p => .tup [mx r c c p N N, i64 0]) (q := 3) (J := [some ⟨[v, u64 tau], true⟩, some ⟨[i64 r, i64 c, i64 c, .slice p 0 N z 1], true⟩, some ⟨[i64 r, i64 c, i64 c, .slice (H.length + 3) 0 N N 1], true⟩,
    some ⟨D.map u64, true⟩, some ⟨[i64 r, i64 c, i64 c, .slice (H.length + 3) 0 N N 1], true⟩]) rfl (fun q o h => .inl h) (closed_u64 _) (fun p => by simp [Cl, Cls']) (fun π p _ => by simp [ren, rens]) rfl ?_
  refine enterS Try.func63 [.cell 8 26, .tmp 9] ?_
  repeat' first | (with_reducible (show W _ _ _ _ _); with_reducible refine go2 ?_) | (with_reducible (show W _ _ _ _ _); with_reducible refine sg2 ?_ ?_ <;> intro _) | (with_reducible (show W _ _ _ _ _); with_reducible refine sc2 ?_ ?_ <;> intro _) | (with_reducible (show CallK _ _ _ _ _ _ _ _ _ _ _); with_reducible refine ce2 (check_ok h hN _) ?_) | (with_reducible (show CallK _ _ _ _ _ _ _ _ _ _ _); with_reducible refine ce2 (rows_spec hv _ _ _ _) ?_) | (with_reducible (show CallK _ _ _ _ _ _ _ _ _ _ _); with_reducible refine ce2 (kind_spec _ _) ?_) | (with_reducible (show W _ _ (.code (.region 19 _ true) :: _) _ _); with_reducible refine W_draw [(0, []), (1, []), (2, []), (3, []), (4, []), (5, []), (6, []), (7, []), (8, []), (9, []), (10, []), (12, []), (13, []), (14, []), (11, [0]), (15, [0]), (16, [0]), (17, [])] [0] (by kernel_rfl) ?_) | ((with_reducible (show CallK _ _ _ _ _ _ _ _ _ _ _); with_reducible refine cm2 (clone_spec h hN ((hget_old hpl).trans hp)) ?_))
  all_goals trivial
theorem left_n {r c : Int} {p z : Nat} {D : List Int} (h : MatOk r c D) (hI : InD D) {v : MV} {V : List Int} {N : Nat} (hN : D.length = N) {H : MH} {rw : Bool} (hp : hget H p = some ⟨D.map u64, rw⟩) (hv : Sl H v V) (hV : InD V) (tau m : Int) (hrows : rowsB V.length r m = true) (g0 : Int) :
    Spec Try.prog 63 [.agg [v, u64 tau], nilp, mx r c c p N z, i64 m] H fun u H' => u = .tup [mx r c c H.length N N, i64 0] ∧ H' = H ++ [some ⟨(leftR r c V tau m (D, g0)).1.map u64, true⟩] := by
  unfold leftR
  by_cases htau : kindM tau = 1
  · rw [if_pos htau]; exact left_zero h hN hp _ hv tau m hrows htau
  · rw [if_neg htau]; exact left_nil h hI hN hp hv hV tau m hrows htau g0
theorem left_p {r c : Int} {p z q : Nat} {D : List Int} (h : MatOk r c D) (hI : InD D) {v : MV} {V : List Int} {N : Nat} (hN : D.length = N) {H : MH} {rw : Bool} (hp : hget H p = some ⟨D.map u64, rw⟩) (hv : Sl H v V) (hV : InD V) (tau m : Int) (hrows : rowsB V.length r m = true) {g0 : Int} (hq : hget H q = some ⟨[u8 g0], true⟩) :
    Spec Try.prog 63 [.agg [v, u64 tau], .ptr q 0, mx r c c p N z, i64 m] H fun u H' => u = .tup [mx r c c H.length N N, i64 0] ∧ H' = H.set q (some ⟨[u8 (leftR r c V tau m (D, g0)).2], true⟩) ++ [some ⟨(leftR r c V tau m (D, g0)).1.map u64, true⟩] := by
  unfold leftR
  by_cases htau : kindM tau = 1
  · rw [if_pos htau, hset_id hq]; exact left_zero h hN hp _ hv tau m hrows htau
  · rw [if_neg htau]; exact left_ptr h hI hN hp hv hV tau m hrows htau hq

def rightR (r c : Int) (V : List Int) (tau m : Int) (S : List Int × Int) : List Int × Int :=
  (mturnM c r (leftR c r V tau m (mturnM r c S.1, S.2)).1, (leftR c r V tau m (mturnM r c S.1, S.2)).2)
theorem mturn_in {r c : Int} {D : List Int} (h : InD D) : InD (mturnM r c D) := by
  intro x hx
  simp only [mturnM, genM, List.mem_map] at hx
  obtain ⟨t, _, rfl⟩ := hx
  exact atM_in h _ _ _ _ _
theorem rightR_ok {r c : Int} {V : List Int} {tau m : Int} {S : List Int × Int} (h : SOk r c S) : SOk r c (rightR r c V tau m S) := by
  have h1 : SOk c r (mturnM r c S.1, S.2) := ⟨mturn_ok h.1, mturn_in h.2⟩
  have h2 := leftR_ok (V := V) (tau := tau) (m := m) h1
  exact ⟨mturn_ok h2.1, mturn_in h2.2⟩
theorem right_n {r c : Int} {p z : Nat} {D : List Int} (h : MatOk r c D) (hI : InD D) {v : MV} {V : List Int} {N : Nat} (hN : D.length = N) {H : MH} {rw : Bool} (hp : hget H p = some ⟨D.map u64, rw⟩) (hv : Sl H v V) (hV : InD V) (tau m : Int) (hrows : rowsB V.length c m = true) (g0 : Int) :
    Spec Try.prog 64 [.agg [v, u64 tau], nilp, mx r c c p N z, i64 m] H fun u H' => u = .tup [mx r c c H.length N N, i64 0] ∧ H' = H ++ [some ⟨(rightR r c V tau m (D, g0)).1.map u64, true⟩] := by
  have hpl := lt_of_hget hp
  have ht := mturn_ok h
  have htI := mturn_in (r := r) (c := c) hI
  have htN : (mturnM r c D).length = N := by rw [ht.len, Int.mul_comm, ← h.len]; exact hN
  have hL := leftR_ok (V := V) (tau := tau) (m := m) (S := (mturnM r c D, g0)) ⟨ht, htI⟩
  have hLN : (leftR c r V tau m (mturnM r c D, g0)).1.length = N := by rw [hL.1.len, ← ht.len]; exact htN
  have hL1 : MatOk c r (leftR c r V tau m (mturnM r c D, g0)).1 := hL.1
  refine Spec.oneW (Hm := H) (v := fun p => .tup [mx r c c p N N, i64 0]) (q := 6) (J := [some ⟨[v, u64 tau], true⟩, some ⟨[i64 r, i64 c, i64 c, .slice p 0 N z 1], true⟩, some ⟨[i64 r, i64 c, i64 c, .slice (H.length + 6) 0 N N 1], true⟩,
    some ⟨[i64 c, i64 r, i64 r, .slice (H.length + 5) 0 N N 1], true⟩, some ⟨(mturnM r c D).map u64, true⟩, some ⟨(leftR c r V tau m (mturnM r c D, g0)).1.map u64, true⟩, some ⟨(rightR r c V tau m (D, g0)).1.map u64, true⟩]) rfl (fun q o h => .inl h) (closed_u64 _) (fun p => by simp [Cl, Cls']) (fun π p _ => by simp [ren, rens]) rfl ?_
  refine enterS Try.func64 [.cell 8 26, .tmp 9] ?_
  repeat' first | (with_reducible (show W _ _ _ _ _); with_reducible refine go2 ?_) | (with_reducible (show W _ _ _ _ _); with_reducible refine sg2 ?_ ?_ <;> intro _) | (with_reducible (show W _ _ _ _ _); with_reducible refine sc2 ?_ ?_ <;> intro _) | (with_reducible (show CallK _ _ _ _ _ _ _ _ _ _ _); with_reducible refine ce2 (check_ok h hN _) ?_) | (with_reducible (show CallK _ _ _ _ _ _ _ _ _ _ _); with_reducible refine ce2 (rows_spec hv _ _ _ _) ?_) | (with_reducible (show W _ _ (.code (.region 3 _ true) :: _) _ _); with_reducible refine W_draw [(0, []), (1, []), (2, []), (4, []), (9, []), (3, [0, 9]), (5, [9]), (6, []), (7, []), (8, []), (10, []), (11, [])] [0, 9] (by kernel_rfl) ?_) | ((with_reducible (show CallK _ _ _ _ _ _ _ _ _ _ _); first | (with_reducible refine cm2 (mturn_spec h hN ((hget_old hpl).trans hp)) ?_) | (with_reducible refine cm2 (left_n ht htI htN hget_new (hv.app _) hV _ _ hrows g0) ?_) | (with_reducible refine cm2 (mturn_spec hL1 hLN hget_new) ?_)))
  all_goals rfl
theorem right_p {r c : Int} {p z q : Nat} {D : List Int} (h : MatOk r c D) (hI : InD D) {v : MV} {V : List Int} {N : Nat} (hN : D.length = N) {H : MH} {rw : Bool} (hp : hget H p = some ⟨D.map u64, rw⟩) (hv : Sl H v V) (hV : InD V) (tau m : Int) (hrows : rowsB V.length c m = true) {g0 : Int} (hq : hget H q = some ⟨[u8 g0], true⟩) :
    Spec Try.prog 64 [.agg [v, u64 tau], .ptr q 0, mx r c c p N z, i64 m] H fun u H' => u = .tup [mx r c c H.length N N, i64 0] ∧ H' = H.set q (some ⟨[u8 (rightR r c V tau m (D, g0)).2], true⟩) ++ [some ⟨(rightR r c V tau m (D, g0)).1.map u64, true⟩] := by
  have hpl := lt_of_hget hp
  have hql := lt_of_hget hq
  have hqp := mat_ne hp hq
  have ht := mturn_ok h
  have htI := mturn_in (r := r) (c := c) hI
  have htN : (mturnM r c D).length = N := by rw [ht.len, Int.mul_comm, ← h.len]; exact hN
  have hL := leftR_ok (V := V) (tau := tau) (m := m) (S := (mturnM r c D, g0)) ⟨ht, htI⟩
  have hLN : (leftR c r V tau m (mturnM r c D, g0)).1.length = N := by rw [hL.1.len, ← ht.len]; exact htN
  have hL1 : MatOk c r (leftR c r V tau m (mturnM r c D, g0)).1 := hL.1
  refine Spec.oneW (Hm := H.set q (some ⟨[u8 (rightR r c V tau m (D, g0)).2], true⟩)) (v := fun p => .tup [mx r c c p N N, i64 0]) (q := 6) (J := [some ⟨[v, u64 tau], true⟩, some ⟨[i64 r, i64 c, i64 c, .slice p 0 N z 1], true⟩, some ⟨[i64 r, i64 c, i64 c, .slice (H.length + 6) 0 N N 1], true⟩,
    some ⟨[i64 c, i64 r, i64 r, .slice (H.length + 5) 0 N N 1], true⟩, some ⟨(mturnM r c D).map u64, true⟩, some ⟨(leftR c r V tau m (mturnM r c D, g0)).1.map u64, true⟩, some ⟨(rightR r c V tau m (D, g0)).1.map u64, true⟩]) len_set (set_or (fun q o h => .inl h) (by simp [Cl])) (closed_u64 _) (fun p => by simp [Cl, Cls']) (fun π p _ => by simp [ren, rens]) rfl ?_
  refine enterS Try.func64 [.cell 8 26, .tmp 9] ?_
  repeat' first | (with_reducible (show W _ _ _ _ _); with_reducible refine go2 ?_) | (with_reducible (show W _ _ _ _ _); with_reducible refine sg2 ?_ ?_ <;> intro _) | (with_reducible (show W _ _ _ _ _); with_reducible refine sc2 ?_ ?_ <;> intro _) | (with_reducible (show CallK _ _ _ _ _ _ _ _ _ _ _); with_reducible refine ce2 (check_ok h hN _) ?_) | (with_reducible (show CallK _ _ _ _ _ _ _ _ _ _ _); with_reducible refine ce2 (rows_spec hv _ _ _ _) ?_) | (with_reducible (show W _ _ (.code (.region 3 _ true) :: _) _ _); with_reducible refine W_draw [(0, []), (1, []), (2, []), (4, []), (9, []), (3, [0, 9]), (5, [9]), (6, []), (7, []), (8, []), (10, []), (11, [])] [0, 9] (by kernel_rfl) ?_) | ((with_reducible (show CallK _ _ _ _ _ _ _ _ _ _ _); first | (with_reducible refine cm2 (mturn_spec h hN ((hget_old hpl).trans hp)) ?_) | (with_reducible refine cm2 (left_p ht htI htN hget_new (hv.app _) hV _ _ hrows ((hget_old hql).trans hq)) ?_) | (with_reducible refine cm2 (mturn_spec hL1 hLN (hget_newL len_set)) ?_)))
  all_goals rfl
end Go.Proofs.Ytamoljalficfgaa.M
