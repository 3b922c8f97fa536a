/- Loops with a count that goes down; new matrices. -/
import Derived.Test.YtcikcinkjbbnhaaDoorMT2
set_option linter.unusedSimpArgs false
set_option linter.unusedVariables false
set_option maxRecDepth 10000
set_option maxHeartbeats 2000000
namespace Go.Proofs.YtcikcinkjbbnhaaDoor.M
open Go Go.Proofs

/-- A loop: what holds at each round's head, with a number that goes down. -/
theorem W_for {P : Program} {Q : MQ} {k : List It} {ρ : Env} {H : MH} {c : Code} (I : Nat → Env → MH → Prop) (n : Nat) (h0 : I n ρ H)
    (round : ∀ j ρ H, I j ρ H → W P Q (.code c :: .back (fun ρ' H' => ∃ j', j' < j ∧ I j' ρ' H') :: k) ρ H) : W P Q (.code (.loop c) :: k) ρ H := by
  show ∃ n, loopN (mwp P c) (WQ P Q k) n ρ H
  have key : ∀ (n j : Nat) (ρ : Env) (H : MH), j < n → I j ρ H → loopN (mwp P c) (WQ P Q k) n ρ H := by
    intro n
    induction n with
    | zero => intro j ρ H hj; omega
    | succ n ih =>
      intro j ρ H hj hI
      refine mwp_mono c _ _ ρ H ?_ (round j ρ H hI)
      intro e ρ' H' he
      cases e with
      | normal => obtain ⟨j', h1, h2⟩ := he; exact ih j' ρ' H' (by omega) h2
      | exit id => exact he
      | ret => exact he
  exact ⟨n + 1, key _ n ρ H (by omega) h0⟩

/-- So many rounds, one behind the other. -/
def iter {α : Type} (f : Nat → α → α) : Nat → α → α
  | 0, a => a
  | k + 1, a => f k (iter f k a)

theorem lt_of_hget {H : MH} {p : Nat} {o : MO} (h : hget H p = some o) : p < H.length := hget_lt h

mutual
theorem cl_more {n : Nat} {ps : List Nat} : ∀ {v : MV}, Cl n [] v → Cl n ps v
  | .lit _, _ => by simp [Cl]
  | .ptr p o, hc => by simp [Cl] at hc ⊢; exact .inl hc
  | .slice .., hc => by simp [Cl] at hc ⊢; exact .inl hc
  | .agg vs, hc => by simp only [Cl] at hc ⊢; exact cls_more hc
  | .tup vs, hc => by simp only [Cl] at hc ⊢; exact cls_more hc
  | .fn f a b, hc => by simp only [Cl] at hc ⊢; exact ⟨cls_more hc.1, cls_more hc.2⟩
theorem cls_more {n : Nat} {ps : List Nat} : ∀ {vs : List MV}, Cls' n [] vs → Cls' n ps vs
  | [], _ => by simp [Cls']
  | v :: vs, hc => by simp only [Cls'] at hc ⊢; exact ⟨cl_more hc.1, cls_more hc.2⟩
end

/-- Only what is new is kept, as the next object. -/
theorem Spec.one {P : Program} {f : FuncId} {args : List MV} {H : MH} {v : Nat → MV} {cs : List MV} {q : Nat} {J : MH} (hcs : ∀ c ∈ cs, Cl 0 [] c) (hv : ∀ p, Cl H.length [p] (v p)) (hr : ∀ π p, H.length ≤ p → ren π (v p) = v (π p))
    (hq : J[q]? = some (some ⟨cs, true⟩)) (h : Spec P f args H fun u H' => u = v (H.length + q) ∧ H' = H ++ J) : Spec P f args H fun u H' => u = v H.length ∧ H' = H ++ [some ⟨cs, true⟩] := by
  refine Spec.gc h ?_
  rintro u H1 ⟨rfl, rfl⟩
  have hg : hget (H ++ J) (H.length + q) = some ⟨cs, true⟩ := by
    unfold hget
    rw [List.getElem?_append_right (by omega)]
    have : H.length + q - H.length = q := by omega
    rw [this, hq]; rfl
  have hk : keep H.length [H.length + q] (H.length + q) = H.length := by
    unfold keep
    rw [if_neg (by omega)]
    simp
  refine ⟨H, J, [H.length + q], rfl, rfl, by simp, by simp, fun p o ho => .inl ho, ?_, hv _, ?_, ?_⟩
  · intro p hp o ho c hc
    simp only [List.mem_singleton] at hp
    subst hp
    rw [hg] at ho
    cases ho
    have := cl_mono (Nat.zero_le H.length) c (hcs c hc)
    exact cl_more this
  · rw [hr _ _ (by omega), hk]
  · simp only [List.map_cons, List.map_nil, keptO, hg, Option.map_some]
    congr 3
    congr 1
    exact (List.map_congr_left fun c hc => ren_free c (hcs c hc)).trans (List.map_id' _)

/-- A matrix of zeros. -/
theorem new_spec (r c : Int) (hr : 0 ≤ r ∧ r ≤ 4096) (hc : 0 ≤ c ∧ c ≤ 4096) (H : MH) : Spec Tryd.prog 64 [i64 r, i64 c] H fun v H' => v = mx r c c H.length (r * c).toNat (r * c).toNat ∧ H' = H ++ [some ⟨List.replicate (r * c).toNat (u64 0), true⟩] := by
  have hm : 0 ≤ r * c ∧ r * c ≤ 4096 * 4096 := ⟨Int.mul_nonneg hr.1 hc.1, Int.mul_le_mul hr.2 hc.2 hc.1 (by omega)⟩
  have hw : IntKind.i64.wrap (r * c) = r * c := wrap_i64 (by omega)
  have h1 : ¬ r < 0 := by omega
  have h2 : ¬ c < 0 := by omega
  have h3 : ¬ r > 4096 := by omega
  have h4 : ¬ c > 4096 := by omega
  have ms : msV (.slice 1 8 (some [.int .u64 0]) true) (i64 (r * c)) (i64 (r * c)) = some (List.replicate (r * c).toNat (u64 0), (r * c).toNat, (r * c).toNat, 1) := by
    simp only [msV]
    rw [if_pos ⟨hm.1, Int.le_refl _, by omega, by omega, rfl⟩, Nat.mul_one, replicate_zero]
  refine Spec.one (q := 1) (J := [some ⟨[i64 r, i64 c, i64 c, .slice (H.length + 1) 0 (r * c).toNat (r * c).toNat 1], true⟩, some ⟨List.replicate (r * c).toNat (u64 0), true⟩]) (v := fun p => mx r c c p (r * c).toNat (r * c).toNat)
    (fun x hx => ?_) (fun p => ?_) (fun π p _ => ?_) rfl ?_
  · rw [List.eq_of_mem_replicate hx]; simp [Cl]
  · simp [Cl, Cls']
  · simp [ren, rens]
  refine enterS Tryd.func64 [.cell 4 56] ?_
  repeat' first | (with_reducible (show W _ _ _ _ _); with_reducible refine go2 ?_) | (with_reducible (show W _ _ _ _ _); with_reducible refine sg2 ?_ ?_ <;> intro _) | (with_reducible (show W _ _ _ _ _); with_reducible refine sc2 ?_ ?_ <;> intro _)
  all_goals simp [*]
end Go.Proofs.YtcikcinkjbbnhaaDoor.M

/- Matrices with nothing between their rows; the identity. -/
set_option linter.unusedSimpArgs false
set_option linter.unusedVariables false
set_option maxRecDepth 10000
set_option maxHeartbeats 2000000
namespace Go.Proofs.YtcikcinkjbbnhaaDoor.M
open Go Go.Proofs

structure MatOk (r c : Int) (D : List Int) : Prop where
  r0 : 0 ≤ r
  r1 : r ≤ 4096
  c0 : 0 ≤ c
  c1 : c ≤ 4096
  len : D.length = (r * c).toNat

theorem MatOk.mul {r c : Int} {D : List Int} (h : MatOk r c D) : 0 ≤ r * c ∧ r * c ≤ 4096 * 4096 :=
  ⟨Int.mul_nonneg h.r0 h.c0, Int.mul_le_mul h.r1 h.c1 h.c0 (by omega)⟩
theorem MatOk.ix {r c : Int} {D : List Int} (h : MatOk r c D) {i k : Int} (hi : inM r c c D.length i k = true) : 0 ≤ ixM c i k ∧ ixM c i k < D.length := by
  simp only [inM, Bool.and_eq_true, decide_eq_true_eq] at hi
  obtain ⟨⟨⟨⟨⟨h1, h2⟩, h3⟩, h4⟩, h5⟩, h6⟩ := hi
  have a1 : 0 ≤ i * c := Int.mul_nonneg h1 h.c0
  have a2 : i * c ≤ 4096 * 4096 := Int.mul_le_mul (by have := h.r1; omega) h.c1 h.c0 (by omega)
  have e1 : IntKind.i64.wrap (i * c) = i * c := wrap_i64 (by omega)
  have := h.c1
  have e2 : IntKind.i64.wrap (i * c + k) = i * c + k := wrap_i64 (by omega)
  unfold ixM
  rw [e1, e2] at h6 ⊢
  exact ⟨by omega, h6⟩
theorem at_ok {r c : Int} {p z : Nat} {D : List Int} (h : MatOk r c D) (i k : Int) {H : MH} {rw : Bool} (hp : hget H p = some ⟨D.map u64, rw⟩) {n : Nat} (hn : D.length = n) : Spec Tryd.prog 27 [mx r c c p n z, i64 i, i64 k] H fun v H' => v = u64 (atM r c c D i k) ∧ H' = H := by
  subst hn
  exact at_spec r c c p z D i k hp (fun hi => (h.ix hi).1) (fun hi => (h.ix hi).2)
theorem set_ok {r c : Int} {p z : Nat} {D : List Int} (h : MatOk r c D) (i k b : Int) {H : MH} (hp : hget H p = some ⟨D.map u64, true⟩) {n : Nat} (hn : D.length = n) : Spec Tryd.prog 67 [mx r c c p n z, i64 i, i64 k, u64 b] H fun v H' => v = .tup [] ∧ H' = H.set p (some ⟨(setM r c c D i k b).map u64, true⟩) := by
  subst hn
  refine Spec.stored ?_ (by simp [Cl, Cls']) (set_spec r c c p z D i k b hp (fun hi => (h.ix hi).1) (fun hi => (h.ix hi).2))
  intro x hx
  simp only [List.mem_map] at hx
  obtain ⟨y, _, rfl⟩ := hx
  simp [Cl]
theorem setM_len (r c s : Int) (D : List Int) (i k b : Int) : (setM r c s D i k b).length = D.length := by
  unfold setM; split <;> simp
theorem MatOk.set {r c : Int} {D : List Int} (h : MatOk r c D) (i k b : Int) : MatOk r c (setM r c c D i k b) := ⟨h.r0, h.r1, h.c0, h.c1, by rw [setM_len]; exact h.len⟩
theorem MatOk.iter {r c : Int} {D : List Int} (h : MatOk r c D) {f : Nat → List Int → List Int} (hf : ∀ k D, MatOk r c D → MatOk r c (f k D)) : ∀ n, MatOk r c (iter f n D)
  | 0 => h
  | n + 1 => hf n _ (MatOk.iter h hf n)
theorem MatOk.zero {r c : Int} (hr : 0 ≤ r ∧ r ≤ 4096) (hc : 0 ≤ c ∧ c ≤ 4096) : MatOk r c (List.replicate (r * c).toNat 0) := ⟨hr.1, hr.2, hc.1, hc.2, List.length_replicate⟩
theorem map_rep {n : Nat} : (List.replicate n (u64 0)) = (List.replicate n (0 : Int)).map u64 := by simp

def oneM (n : Int) : List Int := iter (fun k D => setM n n n D k k 4607182418800017408) n.toNat (List.replicate (n * n).toNat 0)
theorem oneM_ok {n : Int} (h : 0 ≤ n ∧ n ≤ 4096) : MatOk n n (oneM n) := (MatOk.zero h h).iter (fun k D hD => hD.set _ _ _) _
theorem wrap_suc {k : Nat} {n : Int} (h : (k : Int) < n) (hn : n ≤ 4611686018427387904) : IntKind.i64.wrap ((k : Int) + 1) = ((k + 1 : Nat) : Int) := by rw [wrap_i64 (by omega)]; omega
theorem one_spec {n : Int} (h : 0 ≤ n ∧ n ≤ 4096) (H : MH) : Spec Tryd.prog 45 [i64 n] H fun v H' => v = mx n n n H.length (n * n).toNat (n * n).toNat ∧ H' = H ++ [some ⟨(oneM n).map u64, true⟩] := by
  refine Spec.one (q := 1) (J := [some ⟨[i64 n, i64 n, i64 n, .slice (H.length + 1) 0 (n * n).toNat (n * n).toNat 1], true⟩, some ⟨(oneM n).map u64, true⟩, some ⟨[i64 n, i64 n, i64 n, .slice (H.length + 1) 0 (n * n).toNat (n * n).toNat 1], true⟩])
    (v := fun p => mx n n n p (n * n).toNat (n * n).toNat) (fun x hx => ?_) (fun p => ?_) (fun π p _ => ?_) rfl ?_
  · simp only [List.mem_map] at hx; obtain ⟨y, _, rfl⟩ := hx; simp [Cl]
  · simp [Cl, Cls']
  · simp [ren, rens]
  refine enterS Tryd.func45 [.cell 2 56] ?_
  repeat' first | (with_reducible (show W _ _ _ _ _); with_reducible refine go2 ?_) | (with_reducible (show W _ _ _ _ _); with_reducible refine sg2 ?_ ?_ <;> intro _) | (with_reducible (show W _ _ _ _ _); with_reducible refine sc2 ?_ ?_ <;> intro _) | ((with_reducible (show CallK _ _ _ _ _ _ _ _ _ _ _); with_reducible refine cM (new_spec n n h h _) ?_))
  refine W_for (fun j ρ H' => ∃ k : Nat, k + j = n.toNat ∧ ρ 2 = .ptr H.length 0 ∧ ρ 3 = .ptr (H.length + 2) 0 ∧ ρ 9 = i64 n ∧ ρ 10 = i64 k ∧
    H' = H ++ [some ⟨[i64 0, i64 0, i64 0, .lit (.slice none 0 0)], true⟩, some ⟨(iter (fun k D => setM n n n D k k 4607182418800017408) k (List.replicate (n * n).toNat 0)).map u64, true⟩, some ⟨[i64 n, i64 n, i64 n, .slice (H.length + 1) 0 (n * n).toNat (n * n).toNat 1], true⟩]) n.toNat ?_ ?_
  · refine ⟨0, by omega, ?_⟩
    simp [put, iter]
  · rintro j ρ H' ⟨k, hk, h2, h3, h9, h10, rfl⟩
    have ok := (MatOk.zero h h).iter (f := fun k D => setM n n n D k k 4607182418800017408) (fun k D hD => hD.set _ _ _) k
    have hl := ok.len
    repeat' first | (with_reducible (show W _ _ _ _ _); with_reducible refine go2 ?_) | (with_reducible (show W _ _ _ _ _); with_reducible refine sg2 ?_ ?_ <;> intro _) | (with_reducible (show W _ _ _ _ _); with_reducible refine sc2 ?_ ?_ <;> intro _) | ((with_reducible (show CallK _ _ _ _ _ _ _ _ _ _ _); with_reducible refine cM (set_ok ok _ _ _ hget_new ok.len) ?_))
    · refine ⟨j - 1, by omega, k + 1, by omega, by rw [wrap_suc (by assumption) (by have := h.2; omega)], ?_⟩
      simp [iter]
    · have : k = n.toNat := by omega
      simp [oneM, this]
end Go.Proofs.YtcikcinkjbbnhaaDoor.M

/- What is written and what is left behind; matrices held against each other. -/
set_option linter.unusedSimpArgs false
set_option linter.unusedVariables false
set_option maxRecDepth 10000
set_option maxHeartbeats 4000000
namespace Go.Proofs.YtcikcinkjbbnhaaDoor.M
open Go Go.Proofs

theorem hset_set {H : MH} {p : Nat} {x y : Option MO} : (H.set p x).set p y = H.set p y := List.set_set ..
/-- What lies behind is forgotten, what was written is not. -/
theorem Spec.wrote {P : Program} {f : FuncId} {args : List MV} {H : MH} {p : Nat} {o : MO} {r : MV} (ho : ∀ c ∈ o.cells, Cl 0 [] c) (hr : Cl 0 [] r) (h : Spec P f args H fun v H' => v = r ∧ ∃ J, H' = H.set p (some o) ++ J) : Spec P f args H fun v H' => v = r ∧ H' = H.set p (some o) := Spec.stored ho hr h
theorem hget_sa {H L : MH} {p : Nat} {x : Option MO} (h : p < H.length) : hget (H.set p x ++ L) p = x := by rw [hget_old (by rw [len_set]; exact h), hget_set_at h]
theorem Spec.junk {P : Program} {f : FuncId} {args : List MV} {H Hm : MH} {r : MV} (hl : Hm.length = H.length) (ho : ∀ p o, hget Hm p = some o → hget H p = some o ∨ ∀ c ∈ o.cells, Cl 0 [] c) (hr : Cl 0 [] r) (h : Spec P f args H fun v H' => v = r ∧ ∃ J, H' = Hm ++ J) : Spec P f args H fun v H' => v = r ∧ H' = Hm := by
  refine Spec.gc h ?_
  rintro v H1 ⟨rfl, J, rfl⟩
  exact ⟨Hm, J, [], rfl, hl, List.nodup_nil, by simp, ho, by simp, cl_mono (Nat.zero_le _) v hr, ren_free v hr, by simp⟩
theorem closed_u64 (D : List Int) : ∀ c ∈ D.map u64, Cl 0 [] c := by
  intro c hc
  simp only [List.mem_map] at hc
  obtain ⟨y, _, rfl⟩ := hc
  simp [Cl]
theorem set_or {H H0 : MH} {p : Nat} {x : MO} (h : ∀ q o, hget H0 q = some o → hget H q = some o ∨ ∀ c ∈ o.cells, Cl 0 [] c) (hx : ∀ c ∈ x.cells, Cl 0 [] c) : ∀ q o, hget (H0.set p (some x)) q = some o → hget H q = some o ∨ ∀ c ∈ o.cells, Cl 0 [] c := by
  intro q o hq
  by_cases e : p = q
  · subst e
    by_cases l : p < H0.length
    · rw [hget_set_same l] at hq
      cases hq
      exact .inr hx
    · rw [List.set_eq_of_length_le (by omega)] at hq
      exact h _ _ hq
  · rw [hget_set_ne e] at hq
    exact h _ _ hq

/-- Two matrices with the same numbers are the same. -/
theorem same_spec {r c : Int} {p q z y : Nat} {D : List Int} (h : MatOk r c D) {H : MH} {rw rw' : Bool} (hp : hget H p = some ⟨D.map u64, rw⟩) (hq : hget H q = some ⟨D.map u64, rw'⟩) {n : Nat} (hn : D.length = n) :
    Spec Tryd.prog 36 [mx r c c p n z, mx r c c q n y] H fun v H' => v = bl true ∧ H' = H := by
  have hpl := lt_of_hget hp
  have hql := lt_of_hget hq
  have hr := h.r1
  have hc := h.c1
  refine Spec.scalar (enterS Tryd.func36 [.tmp 4] ?_)
  repeat' first | (with_reducible (show W _ _ _ _ _); with_reducible refine go2 ?_) | (with_reducible (show W _ _ _ _ _); with_reducible refine sg2 ?_ ?_ <;> intro _) | (with_reducible (show W _ _ _ _ _); with_reducible refine sc2 ?_ ?_ <;> intro _) | (with_reducible (show W _ _ (.code (.region 9 _ true) :: _) _ _); with_reducible refine W_draw [(0, []), (1, []), (2, []), (4, []), (5, []), (6, []), (3, [4]), (7, []), (8, [])] [4] (by kernel_rfl) ?_)
  refine W_for (fun j ρ H' => ∃ k : Nat, k + j = r.toNat ∧ ρ 2 = .ptr H.length 0 ∧ ρ 3 = .ptr (H.length + 1) 0 ∧ ρ 20 = i64 r ∧ ρ 21 = i64 k ∧
    H' = H ++ [some ⟨[i64 r, i64 c, i64 c, .slice p 0 n z 1], true⟩, some ⟨[i64 r, i64 c, i64 c, .slice q 0 n y 1], true⟩]) r.toNat ?_ ?_
  · refine ⟨0, by omega, ?_⟩
    simp [put]
  · rintro j ρ H' ⟨k, hk, h2, h3, h20, h21, rfl⟩
    repeat' first | (with_reducible (show W _ _ _ _ _); with_reducible refine go2 ?_) | (with_reducible (show W _ _ _ _ _); with_reducible refine sg2 ?_ ?_ <;> intro _) | (with_reducible (show W _ _ _ _ _); with_reducible refine sc2 ?_ ?_ <;> intro _) | (with_reducible (show W _ _ (.code (.region 9 _ true) :: _) _ _); with_reducible refine W_draw [(0, []), (1, []), (2, []), (4, []), (5, []), (6, []), (3, [4]), (7, []), (8, [])] [4] (by kernel_rfl) ?_)
    · rename_i hlt
      refine W_for (fun j' ρ H' => ∃ k' : Nat, k' + j' = c.toNat ∧ ρ 2 = .ptr H.length 0 ∧ ρ 3 = .ptr (H.length + 1) 0 ∧ ρ 5 = i64 k ∧ ρ 20 = i64 r ∧ ρ 21 = i64 k ∧ ρ 25 = i64 c ∧ ρ 26 = i64 k' ∧
        H' = H ++ [some ⟨[i64 r, i64 c, i64 c, .slice p 0 n z 1], true⟩, some ⟨[i64 r, i64 c, i64 c, .slice q 0 n y 1], true⟩]) c.toNat ?_ ?_
      · refine ⟨0, by omega, ?_⟩
        simp [put, *]
      · clear h2 h3 h20 h21
        rintro j' ρ' H' ⟨k', hk', h2, h3, h5, h20, h21, h25, h26, rfl⟩
        repeat' first | (with_reducible (show W _ _ _ _ _); with_reducible refine go2 ?_) | (with_reducible (show W _ _ _ _ _); with_reducible refine sg2 ?_ ?_ <;> intro _) | (with_reducible (show W _ _ _ _ _); with_reducible refine sc2 ?_ ?_ <;> intro _) | (with_reducible (show CallK _ _ _ _ _ _ _ _ _ _ _); with_reducible refine ce2 (at_ok h _ _ ((hget_old hpl).trans hp) hn) ?_) | (with_reducible (show CallK _ _ _ _ _ _ _ _ _ _ _); with_reducible refine ce2 (at_ok h _ _ ((hget_old hql).trans hq) hn) ?_) | (with_reducible (show W _ _ (.code (.region 9 _ true) :: _) _ _); with_reducible refine W_draw [(0, []), (1, []), (2, []), (4, []), (5, []), (6, []), (3, [4]), (7, []), (8, [])] [4] (by kernel_rfl) ?_)
        · exact ⟨j' - 1, by omega, k' + 1, by omega, by rw [wrap_suc (by assumption) (by omega)]⟩
        · exact ⟨j - 1, by omega, k + 1, by omega, by rw [wrap_suc (by assumption) (by omega)]⟩
    · trivial
end Go.Proofs.YtcikcinkjbbnhaaDoor.M
