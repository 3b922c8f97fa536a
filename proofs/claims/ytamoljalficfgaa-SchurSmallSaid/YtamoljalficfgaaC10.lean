/- Matrices with nothing between their rows; the identity. -/
import Derived.Test.YtamoljalficfgaaC9
set_option linter.unusedSimpArgs false
set_option linter.unusedVariables false
set_option maxRecDepth 10000
set_option maxHeartbeats 2000000
namespace Go.Proofs.Ytamoljalficfgaa.M
open Go Go.Proofs

structure MatOk (r c : Int) (D : List Int) : Prop where
  r0 : 0 ≤ r
  r1 : r ≤ 4096
  c0 : 0 ≤ c
  c1 : c ≤ 4096
  len : D.length = (r * c).toNat

theorem MatOk.mul {r c : Int} {D : List Int} (h : MatOk r c D) : 0 ≤ r * c ∧ r * c ≤ 4096 * 4096 :=
  ⟨Int.mul_nonneg h.r0 h.c0, Int.mul_le_mul h.r1 h.c1 h.c0 (by omega)⟩
theorem MatOk.ix {r c : Int} {D : List Int} (h : MatOk r c D) {i k : Int} (hi : inM r c c D.length i k = true) : 0 ≤ ixM c i k ∧ ixM c i k < D.length := by
  simp only [inM, Bool.and_eq_true, decide_eq_true_eq] at hi
  obtain ⟨⟨⟨⟨⟨h1, h2⟩, h3⟩, h4⟩, h5⟩, h6⟩ := hi
  have a1 : 0 ≤ i * c := Int.mul_nonneg h1 h.c0
  have a2 : i * c ≤ 4096 * 4096 := Int.mul_le_mul (by have := h.r1; omega) h.c1 h.c0 (by omega)
  have e1 : IntKind.i64.wrap (i * c) = i * c := wrap_i64 (by omega)
  have := h.c1
  have e2 : IntKind.i64.wrap (i * c + k) = i * c + k := wrap_i64 (by omega)
  unfold ixM
  rw [e1, e2] at h6 ⊢
  exact ⟨by omega, h6⟩
theorem at_ok {r c : Int} {p z : Nat} {D : List Int} (h : MatOk r c D) (i k : Int) {H : MH} {rw : Bool} (hp : hget H p = some ⟨D.map u64, rw⟩) {n : Nat} (hn : D.length = n) : Spec Try.prog 13 [mx r c c p n z, i64 i, i64 k] H fun v H' => v = u64 (atM r c c D i k) ∧ H' = H := by
  subst hn
  exact at_spec r c c p z D i k hp (fun hi => (h.ix hi).1) (fun hi => (h.ix hi).2)
theorem set_ok {r c : Int} {p z : Nat} {D : List Int} (h : MatOk r c D) (i k b : Int) {H : MH} (hp : hget H p = some ⟨D.map u64, true⟩) {n : Nat} (hn : D.length = n) : Spec Try.prog 17 [mx r c c p n z, i64 i, i64 k, u64 b] H fun v H' => v = .tup [] ∧ H' = H.set p (some ⟨(setM r c c D i k b).map u64, true⟩) := by
  subst hn
  refine Spec.stored ?_ (by simp [Cl, Cls']) (set_spec r c c p z D i k b hp (fun hi => (h.ix hi).1) (fun hi => (h.ix hi).2))
  intro x hx
  simp only [List.mem_map] at hx
  obtain ⟨y, _, rfl⟩ := hx
  simp [Cl]
theorem setM_len (r c s : Int) (D : List Int) (i k b : Int) : (setM r c s D i k b).length = D.length := by
  unfold setM; split <;> simp
theorem MatOk.set {r c : Int} {D : List Int} (h : MatOk r c D) (i k b : Int) : MatOk r c (setM r c c D i k b) := ⟨h.r0, h.r1, h.c0, h.c1, by rw [setM_len]; exact h.len⟩
theorem MatOk.iter {r c : Int} {D : List Int} (h : MatOk r c D) {f : Nat → List Int → List Int} (hf : ∀ k D, MatOk r c D → MatOk r c (f k D)) : ∀ n, MatOk r c (iter f n D)
  | 0 => h
  | n + 1 => hf n _ (MatOk.iter h hf n)
theorem MatOk.zero {r c : Int} (hr : 0 ≤ r ∧ r ≤ 4096) (hc : 0 ≤ c ∧ c ≤ 4096) : MatOk r c (List.replicate (r * c).toNat 0) := ⟨hr.1, hr.2, hc.1, hc.2, List.length_replicate⟩
theorem map_rep {n : Nat} : (List.replicate n (u64 0)) = (List.replicate n (0 : Int)).map u64 := by simp

def oneM (n : Int) : List Int := iter (fun k D => setM n n n D k k 4607182418800017408) n.toNat (List.replicate (n * n).toNat 0)
theorem oneM_ok {n : Int} (h : 0 ≤ n ∧ n ≤ 4096) : MatOk n n (oneM n) := (MatOk.zero h h).iter (fun k D hD => hD.set _ _ _) _
theorem wrap_suc {k : Nat} {n : Int} (h : (k : Int) < n) (hn : n ≤ 4611686018427387904) : IntKind.i64.wrap ((k : Int) + 1) = ((k + 1 : Nat) : Int) := by rw [wrap_i64 (by omega)]; omega
theorem one_spec {n : Int} (h : 0 ≤ n ∧ n ≤ 4096) (H : MH) : Spec Try.prog 25 [i64 n] H fun v H' => v = mx n n n H.length (n * n).toNat (n * n).toNat ∧ H' = H ++ [some ⟨(oneM n).map u64, true⟩] := by
  refine Spec.one (q := 1) (J := [some ⟨[i64 n, i64 n, i64 n, .slice (H.length + 1) 0 (n * n).toNat (n * n).toNat 1], true⟩, some ⟨(oneM n).map u64, true⟩, some ⟨[i64 n, i64 n, i64 n, .slice (H.length + 1) 0 (n * n).toNat (n * n).toNat 1], true⟩])
    (v := fun p => mx n n n p (n * n).toNat (n * n).toNat) (fun x hx => ?_) (fun p => ?_) (fun π p _ => ?_) rfl ?_
  · simp only [List.mem_map] at hx; obtain ⟨y, _, rfl⟩ := hx; simp [Cl]
  · simp [Cl, Cls']
  · simp [ren, rens]
  refine enterS Try.func25 [.cell 2 26] ?_
  repeat' first | (with_reducible (show W _ _ _ _ _); with_reducible refine go2 ?_) | (with_reducible (show W _ _ _ _ _); with_reducible refine sg2 ?_ ?_ <;> intro _) | (with_reducible (show W _ _ _ _ _); with_reducible refine sc2 ?_ ?_ <;> intro _) | ((with_reducible (show CallK _ _ _ _ _ _ _ _ _ _ _); with_reducible refine cM (new_spec n n h h _) ?_))
  refine W_for (fun j ρ H' => ∃ k : Nat, k + j = n.toNat ∧ ρ 2 = .ptr H.length 0 ∧ ρ 3 = .ptr (H.length + 2) 0 ∧ ρ 9 = i64 n ∧ ρ 10 = i64 k ∧
    H' = H ++ [some ⟨[i64 0, i64 0, i64 0, .lit (.slice none 0 0)], true⟩, some ⟨(iter (fun k D => setM n n n D k k 4607182418800017408) k (List.replicate (n * n).toNat 0)).map u64, true⟩, some ⟨[i64 n, i64 n, i64 n, .slice (H.length + 1) 0 (n * n).toNat (n * n).toNat 1], true⟩]) n.toNat ?_ ?_
  · refine ⟨0, by omega, ?_⟩
    simp [put, iter]
  · rintro j ρ H' ⟨k, hk, h2, h3, h9, h10, rfl⟩
    have ok := (MatOk.zero h h).iter (f := fun k D => setM n n n D k k 4607182418800017408) (fun k D hD => hD.set _ _ _) k
    have hl := ok.len
    repeat' first | (with_reducible (show W _ _ _ _ _); with_reducible refine go2 ?_) | (with_reducible (show W _ _ _ _ _); with_reducible refine sg2 ?_ ?_ <;> intro _) | (with_reducible (show W _ _ _ _ _); with_reducible refine sc2 ?_ ?_ <;> intro _) | ((with_reducible (show CallK _ _ _ _ _ _ _ _ _ _ _); with_reducible refine cM (set_ok ok _ _ _ hget_new ok.len) ?_))
    · refine ⟨j - 1, by omega, k + 1, by omega, by rw [wrap_suc (by assumption) (by have := h.2; omega)], ?_⟩
      simp [iter]
    · have : k = n.toNat := by omega
      simp [oneM, this]
end Go.Proofs.Ytamoljalficfgaa.M
