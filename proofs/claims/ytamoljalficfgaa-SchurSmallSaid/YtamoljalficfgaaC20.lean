/- Rows for columns; a reflection of a matrix's rows. -/
import Derived.Test.YtamoljalficfgaaC19
set_option linter.unusedSimpArgs false
set_option linter.unusedVariables false
set_option maxRecDepth 10000
set_option maxHeartbeats 4000000
namespace Go.Proofs.Ytamoljalficfgaa.M
open Go Go.Proofs

/-- Of what is new one object is kept; of what was there plain cells may have been written. -/
theorem Spec.oneW {P : Program} {f : FuncId} {args : List MV} {H Hm : MH} {v : Nat → MV} {cs : List MV} {q : Nat} {J : MH} (hl : Hm.length = H.length) (ho : ∀ p o, hget Hm p = some o → hget H p = some o ∨ ∀ c ∈ o.cells, Cl 0 [] c)
    (hcs : ∀ c ∈ cs, Cl 0 [] c) (hv : ∀ p, Cl H.length [p] (v p)) (hr : ∀ π p, H.length ≤ p → ren π (v p) = v (π p)) (hq : J[q]? = some (some ⟨cs, true⟩))
    (h : Spec P f args H fun u H' => u = v (H.length + q) ∧ H' = Hm ++ J) : Spec P f args H fun u H' => u = v H.length ∧ H' = Hm ++ [some ⟨cs, true⟩] := by
  refine Spec.gc h ?_
  rintro u H1 ⟨rfl, rfl⟩
  have hg : hget (Hm ++ J) (H.length + q) = some ⟨cs, true⟩ := by
    unfold hget
    rw [List.getElem?_append_right (by omega)]
    have : H.length + q - Hm.length = q := by omega
    rw [this, hq]; rfl
  have hk : keep H.length [H.length + q] (H.length + q) = H.length := by
    unfold keep
    rw [if_neg (by omega)]
    simp
  refine ⟨Hm, J, [H.length + q], rfl, hl, by simp, by simp, ho, ?_, hv _, ?_, ?_⟩
  · intro p hp o ho c hc
    simp only [List.mem_singleton] at hp
    subst hp
    rw [hg] at ho
    cases ho
    exact cl_more (cl_mono (Nat.zero_le H.length) c (hcs c hc))
  · rw [hr _ _ (by omega), hk]
  · simp only [List.map_cons, List.map_nil, keptO, hg, Option.map_some]
    congr 3
    congr 1
    exact (List.map_congr_left fun c hc => ren_free c (hcs c hc)).trans (List.map_id' _)

def mturnM (r c : Int) (D : List Int) : List Int := genM c r (fun i k => atM r c c D k i)
theorem mturn_ok {r c : Int} {D : List Int} (h : MatOk r c D) : MatOk c r (mturnM r c D) := gen_ok ⟨h.c0, h.c1⟩ ⟨h.r0, h.r1⟩ _
theorem mturn_spec {r c : Int} {p z : Nat} {D : List Int} (h : MatOk r c D) {N : Nat} (hN : D.length = N) {H : MH} {rw : Bool} (hp : hget H p = some ⟨D.map u64, rw⟩) :
    Spec Try.prog 83 [mx r c c p N z] H fun v H' => v = mx c r r H.length N N ∧ H' = H ++ [some ⟨(mturnM r c D).map u64, true⟩] := by
  have hr : 0 ≤ r ∧ r ≤ 4096 := ⟨h.r0, h.r1⟩
  have hc : 0 ≤ c ∧ c ≤ 4096 := ⟨h.c0, h.c1⟩
  have hpl := lt_of_hget hp
  have hNN : (c * r).toNat = N := by rw [Int.mul_comm]; exact h.len.symm.trans hN
  refine Spec.one (q := 2) (J := [some ⟨[i64 r, i64 c, i64 c, .slice p 0 N z 1], true⟩, some ⟨[i64 c, i64 r, i64 r, .slice (H.length + 2) 0 N N 1], true⟩, some ⟨(mturnM r c D).map u64, true⟩, some ⟨[i64 c, i64 r, i64 r, .slice (H.length + 2) 0 N N 1], true⟩])
    (v := fun p => mx c r r p N N) (closed_u64 _) (fun p => by simp [Cl, Cls']) (fun π p _ => by simp [ren, rens]) rfl ?_
  refine enterS Try.func83 [.cell 2 26] ?_
  repeat' first | (with_reducible (show W _ _ _ _ _); with_reducible refine go2 ?_) | (with_reducible (show W _ _ _ _ _); with_reducible refine sg2 ?_ ?_ <;> intro _) | (with_reducible (show W _ _ _ _ _); with_reducible refine sc2 ?_ ?_ <;> intro _) | (with_reducible (show W _ _ (.code (.region 8 _ true) :: _) _ _); with_reducible refine W_draw [(0, []), (1, []), (2, []), (3, []), (4, []), (5, []), (6, [0]), (7, [])] [0] (by kernel_rfl) ?_) | ((with_reducible (show CallK _ _ _ _ _ _ _ _ _ _ _); with_reducible refine cm2 (new_spec c r hc hr _) ?_))
  refine W_for (fun j ρ H' => ∃ i : Nat, i + j = c.toNat ∧ ρ 1 = .ptr H.length 0 ∧ ρ 2 = .ptr (H.length + 1) 0 ∧ ρ 3 = .ptr (H.length + 3) 0 ∧ ρ 12 = i64 c ∧ ρ 13 = i64 i ∧
    H' = H ++ [some ⟨[i64 r, i64 c, i64 c, .slice p 0 N z 1], true⟩, some ⟨[i64 0, i64 0, i64 0, .lit (.slice none 0 0)], true⟩, some ⟨(filled (mturnM r c D) (i * r.toNat)).map u64, true⟩, some ⟨[i64 c, i64 r, i64 r, .slice (H.length + 2) 0 N N 1], true⟩]) c.toNat ?_ ?_
  · refine ⟨0, by omega, ?_⟩
    simp [put, args0, filled_zero, mturnM, genM_len, hNN]
  rintro j ρ H' ⟨i, hi, h1, h2, h3, h12, h13, rfl⟩
  repeat' first | (with_reducible (show W _ _ _ _ _); with_reducible refine go2 ?_) | (with_reducible (show W _ _ _ _ _); with_reducible refine sg2 ?_ ?_ <;> intro _) | (with_reducible (show W _ _ _ _ _); with_reducible refine sc2 ?_ ?_ <;> intro _) | (with_reducible (show W _ _ (.code (.region 8 _ true) :: _) _ _); with_reducible refine W_draw [(0, []), (1, []), (2, []), (3, []), (4, []), (5, []), (6, [0]), (7, [])] [0] (by kernel_rfl) ?_)
  · rename_i hlt
    refine W_for (fun j' ρ H' => ∃ k : Nat, k + j' = r.toNat ∧ ρ 1 = .ptr H.length 0 ∧ ρ 2 = .ptr (H.length + 1) 0 ∧ ρ 3 = .ptr (H.length + 3) 0 ∧ ρ 4 = i64 i ∧ ρ 12 = i64 c ∧ ρ 13 = i64 i ∧ ρ 17 = i64 r ∧ ρ 18 = i64 k ∧
      H' = H ++ [some ⟨[i64 r, i64 c, i64 c, .slice p 0 N z 1], true⟩, some ⟨[i64 0, i64 0, i64 0, .lit (.slice none 0 0)], true⟩, some ⟨(filled (mturnM r c D) (i * r.toNat + k)).map u64, true⟩, some ⟨[i64 c, i64 r, i64 r, .slice (H.length + 2) 0 N N 1], true⟩]) r.toNat ?_ ?_
    · refine ⟨0, by omega, ?_⟩
      simp [put, *]
    clear h1 h2 h3 h12 h13
    rintro j' ρ' H' ⟨k, hk, h1, h2, h3, h4, h12, h13, h17, h18, rfl⟩
    have hrow := row_le hc.1 hr.1 (i := i + 1) (by omega)
    have hfo : MatOk c r (filled (mturnM r c D) (i * r.toNat + k)) := fill_ok hc hr (fun i k => atM r c c D k i) (t := i * r.toNat + k) (by rw [Nat.add_mul] at hrow; omega)
    have hfl := hfo.len.trans hNN
    repeat' first | (with_reducible (show W _ _ _ _ _); with_reducible refine go2 ?_) | (with_reducible (show W _ _ _ _ _); with_reducible refine sg2 ?_ ?_ <;> intro _) | (with_reducible (show W _ _ _ _ _); with_reducible refine sc2 ?_ ?_ <;> intro _) | (with_reducible (show CallK _ _ _ _ _ _ _ _ _ _ _); with_reducible refine ce2 (at_ok h _ _ ((hget_old hpl).trans hp) hN) ?_) | (with_reducible (show W _ _ (.code (.region 8 _ true) :: _) _ _); with_reducible refine W_draw [(0, []), (1, []), (2, []), (3, []), (4, []), (5, []), (6, [0]), (7, [])] [0] (by kernel_rfl) ?_) | ((with_reducible (show CallK _ _ _ _ _ _ _ _ _ _ _); with_reducible refine cm2 (set_ok hfo _ _ _ hget_new hfl) ?_))
    · rename_i hk2
      refine ⟨j' - 1, by omega, k + 1, by omega, by rw [wrap_suc (by assumption) (by omega)], ?_⟩
      have e := fill_step hc hr (fun i k => atM r c c D k i) hlt hk2
      unfold mturnM
      rw [e]
    · have : k = r.toNat := by omega
      subst this
      refine ⟨j - 1, by omega, i + 1, by omega, by rw [wrap_suc (by assumption) (by omega)], ?_⟩
      rw [Nat.add_mul, Nat.one_mul]
  · have : i = c.toNat := by omega
    subst this
    rw [filled_all (by unfold mturnM; rw [genM_len, Int.toNat_mul hc.1 hr.1]; exact Nat.le_refl _)]

def rowsB (l : Nat) (n m : Int) : Bool := decide (0 ≤ m) && decide ((l : Int) ≤ n) && decide (m ≤ IntKind.i64.wrap (n - (l : Int)))
theorem rows_spec {H0 : MH} {v : MV} {V : List Int} (hv : Sl H0 v V) (tau n m : Int) (H : MH) : Spec Try.prog 82 [.agg [v, u64 tau], i64 n, i64 m] H fun u H' => u = bl (rowsB V.length n m) ∧ H' = H := by
  have hlen := len22 hv
  refine Spec.scalar (enterS Try.func82 [.tmp 6] ?_)
  repeat' first | (with_reducible (show W _ _ _ _ _); with_reducible refine go2 ?_) | (with_reducible (show W _ _ _ _ _); with_reducible refine sg2 ?_ ?_ <;> intro _) | (with_reducible (show W _ _ _ _ _); with_reducible refine sc2 ?_ ?_ <;> intro _)
  all_goals (simp_all [rowsB]; try (intros; omega))

/-- A reflection, number by number: what a column is times it, and what comes of it; with what the reckoning has met. -/
def sumS (V : List Int) (x : Nat → Int) (g : Int) (n : Nat) : Int × Int := iter (fun i s => ((addM s.1 (mulM (V.getD i 0) (x i)).1).1, bits .or .u8 (bits .or .u8 s.2 (mulM (V.getD i 0) (x i)).2) (addM s.1 (mulM (V.getD i 0) (x i)).1).2)) n (0, g)
def putS (r c : Int) (V : List Int) (m : Int) (k : Nat) (t : Int) (S : List Int × Int) (n : Nat) : List Int × Int :=
  iter (fun i S => (setM r c c S.1 (m + i) k (addM (atM r c c S.1 (m + i) k) (flipM (mulM (V.getD i 0) t).1)).1, bits .or .u8 (bits .or .u8 S.2 (mulM (V.getD i 0) t).2) (addM (atM r c c S.1 (m + i) k) (flipM (mulM (V.getD i 0) t).1)).2)) n S
theorem putS_succ (r c : Int) (V : List Int) (m : Int) (k : Nat) (t : Int) (S : List Int × Int) (n : Nat) : putS r c V m k t S (n + 1) = (setM r c c (putS r c V m k t S n).1 (m + n) k (addM (atM r c c (putS r c V m k t S n).1 (m + n) k) (flipM (mulM (V.getD n 0) t).1)).1,
  bits .or .u8 (bits .or .u8 (putS r c V m k t S n).2 (mulM (V.getD n 0) t).2) (addM (atM r c c (putS r c V m k t S n).1 (m + n) k) (flipM (mulM (V.getD n 0) t).1)).2) := rfl
def colS (r c : Int) (V : List Int) (tau m : Int) (k : Nat) (S : List Int × Int) : List Int × Int :=
  putS r c V m k (mulM tau (sumS V (fun i => atM r c c S.1 (m + i) k) S.2 V.length).1).1
    (S.1, bits .or .u8 (sumS V (fun i => atM r c c S.1 (m + i) k) S.2 V.length).2 (mulM tau (sumS V (fun i => atM r c c S.1 (m + i) k) S.2 V.length).1).2) V.length
def leftS (r c : Int) (V : List Int) (tau m : Int) (n : Nat) (S : List Int × Int) : List Int × Int := iter (colS r c V tau m) n S
theorem sumS_in (V : List Int) (x : Nat → Int) (g : Int) : ∀ n, InU (sumS V x g n).1
  | 0 => zero_in
  | n + 1 => addM_in (sumS_in V x g n) (mulM_in _ _)
def SOk (r c : Int) (S : List Int × Int) : Prop := MatOk r c S.1 ∧ InD S.1
theorem putS_ok {r c : Int} {V : List Int} {m : Int} {k : Nat} {t : Int} {S : List Int × Int} (h : SOk r c S) : ∀ n, SOk r c (putS r c V m k t S n)
  | 0 => h
  | n + 1 => by
    have ih := putS_ok (V := V) (m := m) (k := k) (t := t) h n
    exact ⟨ih.1.set _ _ _, ih.2.setm _ _ _ _ _ (addM_in (atM_in ih.2 _ _ _ _ _) (flip_in _))⟩
theorem colS_ok {r c : Int} {V : List Int} {tau m : Int} {k : Nat} {S : List Int × Int} (h : SOk r c S) : SOk r c (colS r c V tau m k S) := by
  unfold colS
  refine putS_ok ?_ _
  exact ⟨h.1, h.2⟩
theorem leftS_ok {r c : Int} {V : List Int} {tau m : Int} {S : List Int × Int} (h : SOk r c S) : ∀ n, SOk r c (leftS r c V tau m n S)
  | 0 => h
  | n + 1 => colS_ok (leftS_ok h n)

theorem Sl.setq {H : MH} {v : MV} {xs : List Int} (h : Sl H v xs) {q : Nat} {g0 : Int} (hq : hget H q = some ⟨[u8 g0], true⟩) (g : Int) : Sl (H.set q (some ⟨[u8 g], true⟩)) v xs := by
  rcases h with ⟨h1, a, h2⟩ | ⟨p, o, c, ob, h1, h2, h3⟩
  · exact .inl ⟨h1, a, h2⟩
  · by_cases hpq : q = p
    · subst hpq
      refine .inr ⟨q, o, c, _, h1, hget_set_same (hget_lt hq) _, fun i hi => ?_⟩
      have := h3 i hi
      rw [hq] at h2
      cases h2
      rcases Nat.eq_zero_or_pos (o + i) with h0 | h0
      · rw [h0] at this; simp at this
      · rw [List.getElem?_eq_none (by simp; omega)] at this; cases this
    · exact .inr ⟨p, o, c, ob, h1, (hget_set_ne hpq _).trans h2, h3⟩
theorem mat_ne {H : MH} {p q : Nat} {D : List Int} {rw : Bool} {g : Int} (hp : hget H p = some ⟨D.map u64, rw⟩) (hq : hget H q = some ⟨[u8 g], true⟩) : q ≠ p := by
  rintro rfl
  rw [hp] at hq
  simp only [Option.some.injEq, MO.mk.injEq] at hq
  have := hq.1
  match D, this with
  | [], h => simp at h
  | [x], h => simp at h
  | _ :: _ :: _, h => simp at h

theorem left_ptr {r c : Int} {p z q : Nat} {D : List Int} (h : MatOk r c D) (hI : InD D) {v : MV} {V : List Int} {N : Nat} (hN : D.length = N) {H : MH} {rw : Bool} (hp : hget H p = some ⟨D.map u64, rw⟩) (hv : Sl H v V) (hV : InD V) (tau m : Int)
    (hrows : rowsB V.length r m = true) (htau : kindM tau ≠ 1) {g0 : Int} (hq : hget H q = some ⟨[u8 g0], true⟩) :
    Spec Try.prog 63 [.agg [v, u64 tau], .ptr q 0, mx r c c p N z, i64 m] H fun u H' => u = .tup [mx r c c H.length N N, i64 0] ∧ H' = H.set q (some ⟨[u8 (leftS r c V tau m c.toNat (D, g0)).2], true⟩) ++ [some ⟨(leftS r c V tau m c.toNat (D, g0)).1.map u64, true⟩] := by
  have hr : 0 ≤ r ∧ r ≤ 4096 := ⟨h.r0, h.r1⟩
  have hc : 0 ≤ c ∧ c ≤ 4096 := ⟨h.c0, h.c1⟩
  have hpl := lt_of_hget hp
  have hNN : (r * c).toNat = N := h.len.symm.trans hN
  have hm : 0 ≤ m ∧ (V.length : Int) ≤ r ∧ m ≤ r - V.length := by
    simp only [rowsB, Bool.and_eq_true, decide_eq_true_eq] at hrows
    have := hrows.2
    rw [wrap_i64 (by omega)] at this
    exact ⟨hrows.1.1, hrows.1.2, this⟩
  have hlen := len22 hv
  have hql := lt_of_hget hq
  have hqp := mat_ne hp hq
  have hpq := Ne.symm hqp
  refine Spec.oneW (Hm := H.set q (some ⟨[u8 (leftS r c V tau m c.toNat (D, g0)).2], true⟩)) (v := fun p => .tup [mx r c c p N N, i64 0]) (q := 3) (J := [some ⟨[v, u64 tau], true⟩, some ⟨[i64 r, i64 c, i64 c, .slice p 0 N z 1], true⟩, some ⟨[i64 r, i64 c, i64 c, .slice (H.length + 3) 0 N N 1], true⟩,
    some ⟨(leftS r c V tau m c.toNat (D, g0)).1.map u64, true⟩, some ⟨[i64 r, i64 c, i64 c, .slice (H.length + 3) 0 N N 1], true⟩]) len_set (set_or (fun q o h => .inl h) (by simp [Cl])) (closed_u64 _) (fun p => by simp [Cl, Cls']) (fun π p _ => by simp [ren, rens]) rfl ?_
  refine enterS Try.func63 [.cell 8 26, .tmp 9] ?_
  repeat' first | (with_reducible (show W _ _ _ _ _); with_reducible refine go2 ?_) | (with_reducible (show W _ _ _ _ _); with_reducible refine sg2 ?_ ?_ <;> intro _) | (with_reducible (show W _ _ _ _ _); with_reducible refine sc2 ?_ ?_ <;> intro _) | (with_reducible (show CallK _ _ _ _ _ _ _ _ _ _ _); with_reducible refine ce2 (check_ok h hN _) ?_) | (with_reducible (show CallK _ _ _ _ _ _ _ _ _ _ _); with_reducible refine ce2 (rows_spec hv _ _ _ _) ?_) | (with_reducible (show CallK _ _ _ _ _ _ _ _ _ _ _); with_reducible refine ce2 (kind_spec _ _) ?_) | (with_reducible (show W _ _ (.code (.region 19 _ true) :: _) _ _); with_reducible refine W_draw [(0, []), (1, []), (2, []), (3, []), (4, []), (5, []), (6, []), (7, []), (8, []), (9, []), (10, []), (12, []), (13, []), (14, []), (11, [0]), (15, [0]), (16, [0]), (17, [])] [0] (by kernel_rfl) ?_) | ((with_reducible (show CallK _ _ _ _ _ _ _ _ _ _ _); with_reducible refine cm2 (clone_spec h hN ((hget_old hpl).trans hp)) ?_))
  refine W_for (fun j ρ H' => ∃ k : Nat, k + j = c.toNat ∧ ρ 1 = .ptr q 0 ∧ ρ 3 = i64 m ∧ ρ 4 = .ptr H.length 0 ∧ ρ 8 = .ptr (H.length + 2) 0 ∧ ρ 10 = .ptr (H.length + 4) 0 ∧ ρ 37 = i64 c ∧ ρ 38 = i64 k ∧
    H' = H.set q (some ⟨[u8 (leftS r c V tau m k (D, g0)).2], true⟩) ++ [some ⟨[v, u64 tau], true⟩, some ⟨[i64 r, i64 c, i64 c, .slice p 0 N z 1], true⟩, some ⟨[i64 0, i64 0, i64 0, .lit (.slice none 0 0)], true⟩, some ⟨(leftS r c V tau m k (D, g0)).1.map u64, true⟩, some ⟨[i64 r, i64 c, i64 c, .slice (H.length + 3) 0 N N 1], true⟩]) c.toNat ?_ ?_
  · refine ⟨0, by omega, ?_⟩
    simp [put, args0, leftS, iter, hset_id hq]
  rintro j ρ H' ⟨k, hk, h1, h3, h4, h8, h10, h37, h38, rfl⟩
  have hS := leftS_ok (V := V) (tau := tau) (m := m) (S := (D, g0)) ⟨h, hI⟩ k
  generalize hSe : leftS r c V tau m k (D, g0) = S at hS
  have hSl := hS.1.len.trans hNN
  have hS1 : MatOk r c S.1 := hS.1
  repeat' first | (with_reducible (show W _ _ _ _ _); with_reducible refine go2 ?_) | (with_reducible (show W _ _ _ _ _); with_reducible refine sg2 ?_ ?_ <;> intro _) | (with_reducible (show W _ _ _ _ _); with_reducible refine sc2 ?_ ?_ <;> intro _) | (with_reducible (show W _ _ (.code (.region 19 _ true) :: _) _ _); with_reducible refine W_draw [(0, []), (1, []), (2, []), (3, []), (4, []), (5, []), (6, []), (7, []), (8, []), (9, []), (10, []), (12, []), (13, []), (14, []), (11, [0]), (15, [0]), (16, [0]), (17, [])] [0] (by kernel_rfl) ?_)
  · rename_i hklt
    refine W_for (fun j' ρ H' => ∃ i : Nat, i + j' = V.length ∧ ρ 1 = .ptr q 0 ∧ ρ 3 = i64 m ∧ ρ 4 = .ptr H.length 0 ∧ ρ 8 = .ptr (H.length + 2) 0 ∧ ρ 10 = .ptr (H.length + 4) 0 ∧ ρ 11 = i64 k ∧ ρ 12 = u64 (sumS V (fun i => atM r c c S.1 (m + i) k) S.2 i).1 ∧ ρ 37 = i64 c ∧ ρ 38 = i64 k ∧ ρ 42 = v ∧ ρ 43 = i64 (V.length : Int) ∧ ρ 44 = i64 i ∧
      H' = H.set q (some ⟨[u8 (sumS V (fun i => atM r c c S.1 (m + i) k) S.2 i).2], true⟩) ++ [some ⟨[v, u64 tau], true⟩, some ⟨[i64 r, i64 c, i64 c, .slice p 0 N z 1], true⟩, some ⟨[i64 0, i64 0, i64 0, .lit (.slice none 0 0)], true⟩, some ⟨S.1.map u64, true⟩, some ⟨[i64 r, i64 c, i64 c, .slice (H.length + 3) 0 N N 1], true⟩]) V.length ?_ ?_
    · refine ⟨0, by omega, ?_⟩
      simp [put, sumS, iter, *]
    clear h1 h3 h4 h8 h10 h37 h38
    rintro j' ρ' H' ⟨i, hi, h1, h3, h4, h8, h10, h11, h12, h37, h38, h42, h43, h44, rfl⟩
    have hsi := sumS_in V (fun i => atM r c c S.1 (m + i) k) S.2 i
    have hmi : (i : Int) < V.length → IntKind.i64.wrap (m + i) = m + i := fun h => wrap_i64 (by omega)
    have hia2 : (i : Int) < V.length → iaV (.slice 1 8 (some [.int .u64 0]) true) v (.lit (.int .i64 i)) = some (ixq v i) := fun h => hv.ia (by omega) _ _ _ _
    have hld2 : ∀ (g : Int) (L : MH), (i : Int) < V.length → loadV Try.prog 23 (ixq v i) (H.set q (some ⟨[u8 g], true⟩) ++ L) = some (u64 (V.getD i 0)) := fun g L h => ((hv.setq hq g).app L).ld (by rw [ty_23]) (by rw [ty_23]) (by omega)
    repeat' first | (with_reducible (show W _ _ _ _ _); with_reducible refine go2 ?_) | (with_reducible (show W _ _ _ _ _); with_reducible refine sg2 ?_ ?_ <;> intro _) | (with_reducible (show W _ _ _ _ _); with_reducible refine sc2 ?_ ?_ <;> intro _) | (with_reducible (show CallK _ _ _ _ _ _ _ _ _ _ _); with_reducible refine ce2 (at_ok hS1 _ _ (hget_newL len_set) hSl) ?_) | (with_reducible (show W _ _ (.code (.region 19 _ true) :: _) _ _); with_reducible refine W_draw [(0, []), (1, []), (2, []), (3, []), (4, []), (5, []), (6, []), (7, []), (8, []), (9, []), (10, []), (12, []), (13, []), (14, []), (11, [0]), (15, [0]), (16, [0]), (17, [])] [0] (by kernel_rfl) ?_) | ((with_reducible (show CallK _ _ _ _ _ _ _ _ _ _ _); first | (with_reducible refine cm2 (cmul_spec _ _ _ (hget_sa hql)) ?_) | (with_reducible refine cm2 (cadd_spec hsi (mulM_in _ _) _ (hget_sa hql)) ?_)))
    · exact ⟨j' - 1, by omega, i + 1, by omega, rfl, by rw [wrap_suc (n := (V.length : Int)) (by assumption) (by omega)], rfl⟩
    have hiv : i = V.length := by omega
    subst hiv
    clear h42 h43 h44 hi hmi hia2 hld2
    have hpe : ∀ (S' : List Int × Int) (t : Int), putS r c V m k t S' 0 = S' := fun _ _ => rfl
    refine W_for (fun j' ρ H' => ∃ i : Nat, i + j' = V.length ∧ ρ 1 = .ptr q 0 ∧ ρ 3 = i64 m ∧ ρ 4 = .ptr H.length 0 ∧ ρ 8 = .ptr (H.length + 2) 0 ∧ ρ 10 = .ptr (H.length + 4) 0 ∧ ρ 11 = i64 k ∧ ρ 12 = u64 (mulM tau (sumS V (fun i => atM r c c S.1 (m + i) k) S.2 V.length).1).1 ∧ ρ 37 = i64 c ∧ ρ 38 = i64 k ∧ ρ 68 = v ∧ ρ 69 = i64 (V.length : Int) ∧ ρ 70 = i64 i ∧
      H' = H.set q (some ⟨[u8 (putS r c V m k (mulM tau (sumS V (fun i => atM r c c S.1 (m + i) k) S.2 V.length).1).1 (S.1, bits .or .u8 (sumS V (fun i => atM r c c S.1 (m + i) k) S.2 V.length).2 (mulM tau (sumS V (fun i => atM r c c S.1 (m + i) k) S.2 V.length).1).2) i).2], true⟩) ++
        [some ⟨[v, u64 tau], true⟩, some ⟨[i64 r, i64 c, i64 c, .slice p 0 N z 1], true⟩, some ⟨[i64 0, i64 0, i64 0, .lit (.slice none 0 0)], true⟩, some ⟨(putS r c V m k (mulM tau (sumS V (fun i => atM r c c S.1 (m + i) k) S.2 V.length).1).1 (S.1, bits .or .u8 (sumS V (fun i => atM r c c S.1 (m + i) k) S.2 V.length).2 (mulM tau (sumS V (fun i => atM r c c S.1 (m + i) k) S.2 V.length).1).2) i).1.map u64, true⟩, some ⟨[i64 r, i64 c, i64 c, .slice (H.length + 3) 0 N N 1], true⟩]) V.length ?_ ?_
    · refine ⟨0, by omega, ?_⟩
      simp [put, hpe, *]
    clear h1 h3 h4 h8 h10 h11 h12 h37 h38
    rintro j'' ρ'' H' ⟨i, hi, h1, h3, h4, h8, h10, h11, h12, h37, h38, h68, h69, h70, rfl⟩
    have hT := putS_ok (V := V) (m := m) (k := k) (t := (mulM tau (sumS V (fun i => atM r c c S.1 (m + i) k) S.2 V.length).1).1) (S := (S.1, bits .or .u8 (sumS V (fun i => atM r c c S.1 (m + i) k) S.2 V.length).2 (mulM tau (sumS V (fun i => atM r c c S.1 (m + i) k) S.2 V.length).1).2)) hS i
    have hcol : i = V.length → putS r c V m k (mulM tau (sumS V (fun i => atM r c c S.1 (m + i) k) S.2 V.length).1).1 (S.1, bits .or .u8 (sumS V (fun i => atM r c c S.1 (m + i) k) S.2 V.length).2 (mulM tau (sumS V (fun i => atM r c c S.1 (m + i) k) S.2 V.length).1).2) i = leftS r c V tau m (k + 1) (D, g0) := by
      intro hiv
      subst hiv
      rw [← hSe]; rfl
    have hstep := putS_succ r c V m k (mulM tau (sumS V (fun i => atM r c c S.1 (m + i) k) S.2 V.length).1).1 (S.1, bits .or .u8 (sumS V (fun i => atM r c c S.1 (m + i) k) S.2 V.length).2 (mulM tau (sumS V (fun i => atM r c c S.1 (m + i) k) S.2 V.length).1).2) i
    generalize putS r c V m k (mulM tau (sumS V (fun i => atM r c c S.1 (m + i) k) S.2 V.length).1).1 (S.1, bits .or .u8 (sumS V (fun i => atM r c c S.1 (m + i) k) S.2 V.length).2 (mulM tau (sumS V (fun i => atM r c c S.1 (m + i) k) S.2 V.length).1).2) i = T at hT hcol hstep
    have hTl := hT.1.len.trans hNN
    have hT1 : MatOk r c T.1 := hT.1
    have hat := fun i k => atM_in hT.2 r c c i k
    have hmi : (i : Int) < V.length → IntKind.i64.wrap (m + i) = m + i := fun h => wrap_i64 (by omega)
    have hia2 : (i : Int) < V.length → iaV (.slice 1 8 (some [.int .u64 0]) true) v (.lit (.int .i64 i)) = some (ixq v i) := fun h => hv.ia (by omega) _ _ _ _
    have hld2 : ∀ (g : Int) (L : MH), (i : Int) < V.length → loadV Try.prog 23 (ixq v i) (H.set q (some ⟨[u8 g], true⟩) ++ L) = some (u64 (V.getD i 0)) := fun g L h => ((hv.setq hq g).app L).ld (by rw [ty_23]) (by rw [ty_23]) (by omega)
    repeat' first | (with_reducible (show W _ _ _ _ _); with_reducible refine go2 ?_) | (with_reducible (show W _ _ _ _ _); with_reducible refine sg2 ?_ ?_ <;> intro _) | (with_reducible (show W _ _ _ _ _); with_reducible refine sc2 ?_ ?_ <;> intro _) | (with_reducible (show CallK _ _ _ _ _ _ _ _ _ _ _); with_reducible refine ce2 (at_ok hT1 _ _ (hget_newL len_set) hTl) ?_) | (with_reducible (show W _ _ (.code (.region 19 _ true) :: _) _ _); with_reducible refine W_draw [(0, []), (1, []), (2, []), (3, []), (4, []), (5, []), (6, []), (7, []), (8, []), (9, []), (10, []), (12, []), (13, []), (14, []), (11, [0]), (15, [0]), (16, [0]), (17, [])] [0] (by kernel_rfl) ?_) | ((with_reducible (show CallK _ _ _ _ _ _ _ _ _ _ _); first | (with_reducible refine cm2 (cmul_spec _ _ _ (hget_sa hql)) ?_) | (with_reducible refine cm2 (csub_spec (hat _ _) _ _ (hget_sa hql)) ?_) | (with_reducible refine cm2 (set_ok hT1 _ _ _ (hget_newL len_set) hTl) ?_)))
    · refine ⟨j'' - 1, by omega, i + 1, by omega, by rw [wrap_suc (n := (V.length : Int)) (by assumption) (by omega)], ?_⟩
      rw [hstep]
    · have e := hcol (by omega)
      subst e
      exact ⟨j - 1, by omega, k + 1, by omega, by rw [wrap_suc (by assumption) (by omega)], rfl⟩
  · have : k = c.toNat := by omega
    subst this
    rw [hSe]
end Go.Proofs.Ytamoljalficfgaa.M
