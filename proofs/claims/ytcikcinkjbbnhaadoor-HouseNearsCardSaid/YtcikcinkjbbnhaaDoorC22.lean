/- Matrices filled row by row: copies, and rows for columns; which are matrices. -/
import Derived.Test.YtcikcinkjbbnhaaDoorD1
import Derived.Laws.BitsAllLaws
import Derived.Laws.BitsLemmas
import Derived.Laws.MathBits
import Derived.RowKit
set_option linter.unusedSimpArgs false
set_option linter.unusedVariables false
set_option maxRecDepth 10000
set_option maxHeartbeats 4000000
namespace Go.Proofs.YtcikcinkjbbnhaaDoor.M
open Go Go.Proofs

theorem check_ok {r c : Int} {D : List Int} (h : MatOk r c D) {p n z : Nat} (hn : D.length = n) (H : MH) : Spec Tryd.prog 71 [mx r c c p n z] H fun v H' => v = i64 0 ∧ H' = H := by
  obtain ⟨r0, r1, c0, c1, hl⟩ := h
  have e1 : ¬ r < 0 := by omega
  have e2 : ¬ 4096 < r := by omega
  have e3 : ¬ c < 0 := by omega
  have e4 : ¬ 4096 < c := by omega
  have e5 : ¬ c < c := by omega
  have e6 : ¬ 1099511627776 < c := by omega
  refine Spec.scalar (enterS Tryd.func71 [.tmp 2] ?_)
  repeat' first | (with_reducible (show W _ _ _ _ _); with_reducible refine go2 ?_) | (with_reducible (show W _ _ _ _ _); with_reducible refine sg2 ?_ ?_ <;> intro _) | (with_reducible (show W _ _ _ _ _); with_reducible refine sc2 ?_ ?_ <;> intro _)
  all_goals try trivial
  rename_i hlt
  exfalso
  have a1 : 0 ≤ (r - 1) * c := Int.mul_nonneg (by omega) c0
  have a2 : (r - 1) * c ≤ 4096 * 4096 := Int.mul_le_mul (by omega) c1 c0 (by omega)
  have a3 : (r - 1) * c + c = r * c := by rw [Int.sub_mul]; omega
  have a4 : IntKind.i64.wrap (r - 1) = r - 1 := wrap_i64 (by omega)
  rw [a4, wrap_i64 (n := (r - 1) * c) (by omega), wrap_i64 (by omega), a3] at hlt
  omega

/-- A matrix whose numbers are told by their places. -/
def genM (r c : Int) (f : Nat → Nat → Int) : List Int := (List.range (r * c).toNat).map fun t => f (t / c.toNat) (t % c.toNat)
def filled (G : List Int) (t : Nat) : List Int := G.take t ++ List.replicate (G.length - t) 0
theorem filled_zero (G : List Int) : filled G 0 = List.replicate G.length 0 := by simp [filled]
theorem filled_all {G : List Int} {t : Nat} (h : G.length ≤ t) : filled G t = G := by
  unfold filled
  rw [List.take_of_length_le h]
  have : G.length - t = 0 := by omega
  simp [this]
theorem filled_len (G : List Int) {t : Nat} (h : t ≤ G.length) : (filled G t).length = G.length := by
  unfold filled; simp; omega
theorem filled_set {G : List Int} {t : Nat} (h : t < G.length) : (filled G t).set t (G.getD t 0) = filled G (t + 1) := by
  unfold filled
  apply List.ext_getElem?
  intro i
  rw [List.getElem?_set]
  split
  · rename_i he
    subst he
    have : t < (G.take t ++ List.replicate (G.length - t) 0).length := by simp; omega
    rw [if_pos this, List.getElem?_append_left (by simp; omega)]
    simp [List.getD_eq_getElem?_getD, h]
  · rename_i hne
    rcases Nat.lt_or_ge i t with hlt | hge
    · rw [List.getElem?_append_left (by simp; omega), List.getElem?_append_left (by simp; omega)]
      simp [List.getElem?_take, hlt]
      omega
    · rw [List.getElem?_append_right (by simp; omega), List.getElem?_append_right (by simp; omega)]
      simp only [List.length_take, List.getElem?_replicate]
      congr 1
      · apply propext; omega
theorem genM_len (r c : Int) (f : Nat → Nat → Int) : (genM r c f).length = (r * c).toNat := by simp [genM]
theorem gen_ok {r c : Int} (hr : 0 ≤ r ∧ r ≤ 4096) (hc : 0 ≤ c ∧ c ≤ 4096) (f : Nat → Nat → Int) : MatOk r c (genM r c f) := ⟨hr.1, hr.2, hc.1, hc.2, genM_len r c f⟩
theorem place_lt {r c : Int} (hr : 0 ≤ r) (hc : 0 ≤ c) {i k : Nat} (hi : (i : Int) < r) (hk : (k : Int) < c) : i * c.toNat + k < (r * c).toNat := by
  have h1 : (i + 1) * c.toNat ≤ r.toNat * c.toNat := Nat.mul_le_mul_right _ (by omega)
  have h2 : (r * c).toNat = r.toNat * c.toNat := by
    rw [Int.toNat_mul hr hc]
  rw [h2, Nat.add_mul] at *
  omega
theorem ixM_eq {r c : Int} (hr : 0 ≤ r ∧ r ≤ 4096) (hc : 0 ≤ c ∧ c ≤ 4096) {i k : Nat} (hi : (i : Int) < r) (hk : (k : Int) < c) : ixM c i k = ((i * c.toNat + k : Nat) : Int) := by
  have a1 : 0 ≤ (i : Int) * c := Int.mul_nonneg (by omega) hc.1
  have a2 : (i : Int) * c ≤ 4096 * 4096 := Int.mul_le_mul (by omega) hc.2 hc.1 (by omega)
  unfold ixM
  rw [wrap_i64 (n := (i : Int) * c) (by omega), wrap_i64 (by omega)]
  have : ((c.toNat : Nat) : Int) = c := by omega
  rw [Int.natCast_add, Int.natCast_mul, this]
theorem inM_true {r c : Int} {D : List Int} (h : MatOk r c D) {i k : Nat} (hi : (i : Int) < r) (hk : (k : Int) < c) : inM r c c D.length i k = true := by
  have e := ixM_eq ⟨h.r0, h.r1⟩ ⟨h.c0, h.c1⟩ hi hk
  unfold ixM at e
  have hl := place_lt h.r0 h.c0 hi hk
  rw [← h.len] at hl
  have hc := h.c0
  simp only [inM, Bool.and_eq_true, decide_eq_true_eq, e]
  exact ⟨⟨⟨⟨⟨by omega, hi⟩, by omega⟩, hk⟩, hc⟩, by omega⟩
theorem atM_in' {r c : Int} {D : List Int} (h : MatOk r c D) {i k : Nat} (hi : (i : Int) < r) (hk : (k : Int) < c) : atM r c c D i k = D.getD (i * c.toNat + k) 0 := by
  unfold atM
  rw [if_pos (inM_true h hi hk), ixM_eq ⟨h.r0, h.r1⟩ ⟨h.c0, h.c1⟩ hi hk]
  rfl
theorem setM_in' {r c : Int} {D : List Int} (h : MatOk r c D) {i k : Nat} (hi : (i : Int) < r) (hk : (k : Int) < c) (b : Int) : setM r c c D i k b = D.set (i * c.toNat + k) b := by
  unfold setM
  rw [if_pos (inM_true h hi hk), ixM_eq ⟨h.r0, h.r1⟩ ⟨h.c0, h.c1⟩ hi hk]
  rfl
theorem genM_getD {r c : Int} (hr : 0 ≤ r) (hc : 0 ≤ c) (f : Nat → Nat → Int) {i k : Nat} (hi : (i : Int) < r) (hk : (k : Int) < c) : (genM r c f).getD (i * c.toNat + k) 0 = f i k := by
  have hl := place_lt hr hc hi hk
  have hpos : 0 < c.toNat := by omega
  have hk' : k < c.toNat := by omega
  unfold genM
  rw [List.getD_eq_getElem?_getD, List.getElem?_map, List.getElem?_range hl]
  simp only [Option.map_some, Option.getD_some]
  congr 1
  · rw [Nat.mul_comm, Nat.mul_add_div hpos, Nat.div_eq_of_lt hk']; omega
  · rw [Nat.mul_comm, Nat.mul_add_mod, Nat.mod_eq_of_lt hk']
/-- A copy is the same. -/
theorem gen_at {r c : Int} {D : List Int} (h : MatOk r c D) : genM r c (fun i k => atM r c c D i k) = D := by
  apply List.ext_getElem?
  intro t
  rcases Nat.lt_or_ge t D.length with hlt | hge
  · have hl := h.len
    have hlt' : t < (r * c).toNat := by omega
    have hc : 0 < c.toNat := by
      rcases Nat.eq_zero_or_pos c.toNat with h0 | h0
      · have : c = 0 := by have := h.c0; omega
        subst this; simp at hlt'
      · exact h0
    have hrc : (r * c).toNat = r.toNat * c.toNat := Int.toNat_mul h.r0 h.c0
    have hi : t / c.toNat < r.toNat := by rw [Nat.div_lt_iff_lt_mul hc]; omega
    have hk : t % c.toNat < c.toNat := Nat.mod_lt _ hc
    have e : t / c.toNat * c.toNat + t % c.toNat = t := Nat.div_add_mod' t c.toNat
    have hi' : ((t / c.toNat : Nat) : Int) < r := by have := Int.ofNat_lt.2 hi; rw [Int.toNat_of_nonneg h.r0] at this; exact this
    have hk' : ((t % c.toNat : Nat) : Int) < c := by have := Int.ofNat_lt.2 hk; rw [Int.toNat_of_nonneg h.c0] at this; exact this
    unfold genM
    rw [List.getElem?_map, List.getElem?_range hlt', Option.map_some]
    show some (atM r c c D ((t / c.toNat : Nat) : Int) ((t % c.toNat : Nat) : Int)) = _
    rw [atM_in' h hi' hk', e]
    simp [List.getD_eq_getElem?_getD, hlt]
  · rw [List.getElem?_eq_none hge, List.getElem?_eq_none (by rw [genM_len, ← h.len]; exact hge)]

theorem fill_step {r c : Int} (hr : 0 ≤ r ∧ r ≤ 4096) (hc : 0 ≤ c ∧ c ≤ 4096) (f : Nat → Nat → Int) {i k : Nat} (hi : (i : Int) < r) (hk : (k : Int) < c) :
    setM r c c (filled (genM r c f) (i * c.toNat + k)) i k (f i k) = filled (genM r c f) (i * c.toNat + (k + 1)) := by
  have hl := place_lt hr.1 hc.1 hi hk
  have ok : MatOk r c (filled (genM r c f) (i * c.toNat + k)) := ⟨hr.1, hr.2, hc.1, hc.2, by rw [filled_len _ (by rw [genM_len]; omega), genM_len]⟩
  rw [setM_in' ok hi hk, ← genM_getD hr.1 hc.1 f hi hk, filled_set (by rw [genM_len]; exact hl)]
  rfl
theorem fill_ok {r c : Int} (hr : 0 ≤ r ∧ r ≤ 4096) (hc : 0 ≤ c ∧ c ≤ 4096) (f : Nat → Nat → Int) {t : Nat} (ht : t ≤ (r * c).toNat) : MatOk r c (filled (genM r c f) t) :=
  ⟨hr.1, hr.2, hc.1, hc.2, by rw [filled_len _ (by rw [genM_len]; exact ht), genM_len]⟩
theorem row_le {r c : Int} (hr : 0 ≤ r) (hc : 0 ≤ c) {i : Nat} (hi : (i : Int) ≤ r) : i * c.toNat ≤ (r * c).toNat := by
  rw [Int.toNat_mul hr hc]
  exact Nat.mul_le_mul_right _ (by omega)

/-- A copy of a matrix. -/
theorem clone_spec {r c : Int} {p z : Nat} {D : List Int} (h : MatOk r c D) {N : Nat} (hN : D.length = N) {H : MH} {rw : Bool} (hp : hget H p = some ⟨D.map u64, rw⟩) :
    Spec Tryd.prog 43 [mx r c c p N z] H fun v H' => v = mx r c c H.length N N ∧ H' = H ++ [some ⟨D.map u64, true⟩] := by
  have hr : 0 ≤ r ∧ r ≤ 4096 := ⟨h.r0, h.r1⟩
  have hc : 0 ≤ c ∧ c ≤ 4096 := ⟨h.c0, h.c1⟩
  have hpl := lt_of_hget hp
  have hNN : (r * c).toNat = N := h.len.symm.trans hN
  refine Spec.one (q := 2) (J := [some ⟨[i64 r, i64 c, i64 c, .slice p 0 N z 1], true⟩, some ⟨[i64 r, i64 c, i64 c, .slice (H.length + 2) 0 N N 1], true⟩, some ⟨D.map u64, true⟩, some ⟨[i64 r, i64 c, i64 c, .slice (H.length + 2) 0 N N 1], true⟩])
    (v := fun p => mx r c c p N N) (closed_u64 _) (fun p => by simp [Cl, Cls']) (fun π p _ => by simp [ren, rens]) rfl ?_
  refine enterS Tryd.func43 [.cell 2 56] ?_
  repeat' first | (with_reducible (show W _ _ _ _ _); with_reducible refine go2 ?_) | (with_reducible (show W _ _ _ _ _); with_reducible refine sg2 ?_ ?_ <;> intro _) | (with_reducible (show W _ _ _ _ _); with_reducible refine sc2 ?_ ?_ <;> intro _) | (with_reducible (show W _ _ (.code (.region 8 _ true) :: _) _ _); with_reducible refine W_draw [(0, []), (1, []), (2, []), (3, []), (4, []), (5, []), (6, [0]), (7, [])] [0] (by kernel_rfl) ?_) | ((with_reducible (show CallK _ _ _ _ _ _ _ _ _ _ _); with_reducible refine cm2 (new_spec r c hr hc _) ?_))
  refine W_for (fun j ρ H' => ∃ i : Nat, i + j = r.toNat ∧ ρ 1 = .ptr H.length 0 ∧ ρ 2 = .ptr (H.length + 1) 0 ∧ ρ 3 = .ptr (H.length + 3) 0 ∧ ρ 12 = i64 r ∧ ρ 13 = i64 i ∧
    H' = H ++ [some ⟨[i64 r, i64 c, i64 c, .slice p 0 N z 1], true⟩, some ⟨[i64 0, i64 0, i64 0, .lit (.slice none 0 0)], true⟩, some ⟨(filled (genM r c fun i k => atM r c c D i k) (i * c.toNat)).map u64, true⟩, some ⟨[i64 r, i64 c, i64 c, .slice (H.length + 2) 0 N N 1], true⟩]) r.toNat ?_ ?_
  · refine ⟨0, by omega, ?_⟩
    simp [put, args0, filled_zero, genM_len, hNN]
  rintro j ρ H' ⟨i, hi, h1, h2, h3, h12, h13, rfl⟩
  repeat' first | (with_reducible (show W _ _ _ _ _); with_reducible refine go2 ?_) | (with_reducible (show W _ _ _ _ _); with_reducible refine sg2 ?_ ?_ <;> intro _) | (with_reducible (show W _ _ _ _ _); with_reducible refine sc2 ?_ ?_ <;> intro _) | (with_reducible (show W _ _ (.code (.region 8 _ true) :: _) _ _); with_reducible refine W_draw [(0, []), (1, []), (2, []), (3, []), (4, []), (5, []), (6, [0]), (7, [])] [0] (by kernel_rfl) ?_)
  · rename_i hlt
    refine W_for (fun j' ρ H' => ∃ k : Nat, k + j' = c.toNat ∧ ρ 1 = .ptr H.length 0 ∧ ρ 2 = .ptr (H.length + 1) 0 ∧ ρ 3 = .ptr (H.length + 3) 0 ∧ ρ 4 = i64 i ∧ ρ 12 = i64 r ∧ ρ 13 = i64 i ∧ ρ 17 = i64 c ∧ ρ 18 = i64 k ∧
      H' = H ++ [some ⟨[i64 r, i64 c, i64 c, .slice p 0 N z 1], true⟩, some ⟨[i64 0, i64 0, i64 0, .lit (.slice none 0 0)], true⟩, some ⟨(filled (genM r c fun i k => atM r c c D i k) (i * c.toNat + k)).map u64, true⟩, some ⟨[i64 r, i64 c, i64 c, .slice (H.length + 2) 0 N N 1], true⟩]) c.toNat ?_ ?_
    · refine ⟨0, by omega, ?_⟩
      simp [put, *]
    clear h1 h2 h3 h12 h13
    rintro j' ρ' H' ⟨k, hk, h1, h2, h3, h4, h12, h13, h17, h18, rfl⟩
    have hrow := row_le hr.1 hc.1 (i := i + 1) (by omega)
    have hfo := fill_ok hr hc (fun i k => atM r c c D i k) (t := i * c.toNat + k) (by rw [Nat.add_mul] at hrow; omega)
    have hfl := hfo.len.trans hNN
    repeat' first | (with_reducible (show W _ _ _ _ _); with_reducible refine go2 ?_) | (with_reducible (show W _ _ _ _ _); with_reducible refine sg2 ?_ ?_ <;> intro _) | (with_reducible (show W _ _ _ _ _); with_reducible refine sc2 ?_ ?_ <;> intro _) | (with_reducible (show CallK _ _ _ _ _ _ _ _ _ _ _); with_reducible refine ce2 (at_ok h _ _ ((hget_old hpl).trans hp) hN) ?_) | (with_reducible (show W _ _ (.code (.region 8 _ true) :: _) _ _); with_reducible refine W_draw [(0, []), (1, []), (2, []), (3, []), (4, []), (5, []), (6, [0]), (7, [])] [0] (by kernel_rfl) ?_) | ((with_reducible (show CallK _ _ _ _ _ _ _ _ _ _ _); with_reducible refine cm2 (set_ok hfo _ _ _ hget_new hfl) ?_))
    · rename_i hk2
      refine ⟨j' - 1, by omega, k + 1, by omega, by rw [wrap_suc (by assumption) (by omega)], ?_⟩
      rw [fill_step hr hc (fun i k => atM r c c D i k) hlt hk2]
    · have : k = c.toNat := by omega
      subst this
      refine ⟨j - 1, by omega, i + 1, by omega, by rw [wrap_suc (by assumption) (by omega)], ?_⟩
      rw [Nat.add_mul, Nat.one_mul]
  · have : i = r.toNat := by omega
    subst this
    rw [filled_all (by rw [genM_len, Int.toNat_mul hr.1 hc.1]; exact Nat.le_refl _), gen_at h]
end Go.Proofs.YtcikcinkjbbnhaaDoor.M

/- Rows for columns; a reflection of a matrix's rows. -/
set_option linter.unusedSimpArgs false
set_option linter.unusedVariables false
set_option maxRecDepth 10000
set_option maxHeartbeats 4000000
namespace Go.Proofs.YtcikcinkjbbnhaaDoor.M
open Go Go.Proofs

/-- Of what is new one object is kept; of what was there plain cells may have been written. -/
theorem Spec.oneW {P : Program} {f : FuncId} {args : List MV} {H Hm : MH} {v : Nat → MV} {cs : List MV} {q : Nat} {J : MH} (hl : Hm.length = H.length) (ho : ∀ p o, hget Hm p = some o → hget H p = some o ∨ ∀ c ∈ o.cells, Cl 0 [] c)
    (hcs : ∀ c ∈ cs, Cl 0 [] c) (hv : ∀ p, Cl H.length [p] (v p)) (hr : ∀ π p, H.length ≤ p → ren π (v p) = v (π p)) (hq : J[q]? = some (some ⟨cs, true⟩))
    (h : Spec P f args H fun u H' => u = v (H.length + q) ∧ H' = Hm ++ J) : Spec P f args H fun u H' => u = v H.length ∧ H' = Hm ++ [some ⟨cs, true⟩] := by
  refine Spec.gc h ?_
  rintro u H1 ⟨rfl, rfl⟩
  have hg : hget (Hm ++ J) (H.length + q) = some ⟨cs, true⟩ := by
    unfold hget
    rw [List.getElem?_append_right (by omega)]
    have : H.length + q - Hm.length = q := by omega
    rw [this, hq]; rfl
  have hk : keep H.length [H.length + q] (H.length + q) = H.length := by
    unfold keep
    rw [if_neg (by omega)]
    simp
  refine ⟨Hm, J, [H.length + q], rfl, hl, by simp, by simp, ho, ?_, hv _, ?_, ?_⟩
  · intro p hp o ho c hc
    simp only [List.mem_singleton] at hp
    subst hp
    rw [hg] at ho
    cases ho
    exact cl_more (cl_mono (Nat.zero_le H.length) c (hcs c hc))
  · rw [hr _ _ (by omega), hk]
  · simp only [List.map_cons, List.map_nil, keptO, hg, Option.map_some]
    congr 3
    congr 1
    exact (List.map_congr_left fun c hc => ren_free c (hcs c hc)).trans (List.map_id' _)

def mturnM (r c : Int) (D : List Int) : List Int := genM c r (fun i k => atM r c c D k i)
theorem mturn_ok {r c : Int} {D : List Int} (h : MatOk r c D) : MatOk c r (mturnM r c D) := gen_ok ⟨h.c0, h.c1⟩ ⟨h.r0, h.r1⟩ _
theorem mturn_spec {r c : Int} {p z : Nat} {D : List Int} (h : MatOk r c D) {N : Nat} (hN : D.length = N) {H : MH} {rw : Bool} (hp : hget H p = some ⟨D.map u64, rw⟩) :
    Spec Tryd.prog 104 [mx r c c p N z] H fun v H' => v = mx c r r H.length N N ∧ H' = H ++ [some ⟨(mturnM r c D).map u64, true⟩] := by
  have hr : 0 ≤ r ∧ r ≤ 4096 := ⟨h.r0, h.r1⟩
  have hc : 0 ≤ c ∧ c ≤ 4096 := ⟨h.c0, h.c1⟩
  have hpl := lt_of_hget hp
  have hNN : (c * r).toNat = N := by rw [Int.mul_comm]; exact h.len.symm.trans hN
  refine Spec.one (q := 2) (J := [some ⟨[i64 r, i64 c, i64 c, .slice p 0 N z 1], true⟩, some ⟨[i64 c, i64 r, i64 r, .slice (H.length + 2) 0 N N 1], true⟩, some ⟨(mturnM r c D).map u64, true⟩, some ⟨[i64 c, i64 r, i64 r, .slice (H.length + 2) 0 N N 1], true⟩])
    (v := fun p => mx c r r p N N) (closed_u64 _) (fun p => by simp [Cl, Cls']) (fun π p _ => by simp [ren, rens]) rfl ?_
  refine enterS Tryd.func104 [.cell 2 56] ?_
  repeat' first | (with_reducible (show W _ _ _ _ _); with_reducible refine go2 ?_) | (with_reducible (show W _ _ _ _ _); with_reducible refine sg2 ?_ ?_ <;> intro _) | (with_reducible (show W _ _ _ _ _); with_reducible refine sc2 ?_ ?_ <;> intro _) | (with_reducible (show W _ _ (.code (.region 8 _ true) :: _) _ _); with_reducible refine W_draw [(0, []), (1, []), (2, []), (3, []), (4, []), (5, []), (6, [0]), (7, [])] [0] (by kernel_rfl) ?_) | ((with_reducible (show CallK _ _ _ _ _ _ _ _ _ _ _); with_reducible refine cm2 (new_spec c r hc hr _) ?_))
  refine W_for (fun j ρ H' => ∃ i : Nat, i + j = c.toNat ∧ ρ 1 = .ptr H.length 0 ∧ ρ 2 = .ptr (H.length + 1) 0 ∧ ρ 3 = .ptr (H.length + 3) 0 ∧ ρ 12 = i64 c ∧ ρ 13 = i64 i ∧
    H' = H ++ [some ⟨[i64 r, i64 c, i64 c, .slice p 0 N z 1], true⟩, some ⟨[i64 0, i64 0, i64 0, .lit (.slice none 0 0)], true⟩, some ⟨(filled (mturnM r c D) (i * r.toNat)).map u64, true⟩, some ⟨[i64 c, i64 r, i64 r, .slice (H.length + 2) 0 N N 1], true⟩]) c.toNat ?_ ?_
  · refine ⟨0, by omega, ?_⟩
    simp [put, args0, filled_zero, mturnM, genM_len, hNN]
  rintro j ρ H' ⟨i, hi, h1, h2, h3, h12, h13, rfl⟩
  repeat' first | (with_reducible (show W _ _ _ _ _); with_reducible refine go2 ?_) | (with_reducible (show W _ _ _ _ _); with_reducible refine sg2 ?_ ?_ <;> intro _) | (with_reducible (show W _ _ _ _ _); with_reducible refine sc2 ?_ ?_ <;> intro _) | (with_reducible (show W _ _ (.code (.region 8 _ true) :: _) _ _); with_reducible refine W_draw [(0, []), (1, []), (2, []), (3, []), (4, []), (5, []), (6, [0]), (7, [])] [0] (by kernel_rfl) ?_)
  · rename_i hlt
    refine W_for (fun j' ρ H' => ∃ k : Nat, k + j' = r.toNat ∧ ρ 1 = .ptr H.length 0 ∧ ρ 2 = .ptr (H.length + 1) 0 ∧ ρ 3 = .ptr (H.length + 3) 0 ∧ ρ 4 = i64 i ∧ ρ 12 = i64 c ∧ ρ 13 = i64 i ∧ ρ 17 = i64 r ∧ ρ 18 = i64 k ∧
      H' = H ++ [some ⟨[i64 r, i64 c, i64 c, .slice p 0 N z 1], true⟩, some ⟨[i64 0, i64 0, i64 0, .lit (.slice none 0 0)], true⟩, some ⟨(filled (mturnM r c D) (i * r.toNat + k)).map u64, true⟩, some ⟨[i64 c, i64 r, i64 r, .slice (H.length + 2) 0 N N 1], true⟩]) r.toNat ?_ ?_
    · refine ⟨0, by omega, ?_⟩
      simp [put, *]
    clear h1 h2 h3 h12 h13
    rintro j' ρ' H' ⟨k, hk, h1, h2, h3, h4, h12, h13, h17, h18, rfl⟩
    have hrow := row_le hc.1 hr.1 (i := i + 1) (by omega)
    have hfo : MatOk c r (filled (mturnM r c D) (i * r.toNat + k)) := fill_ok hc hr (fun i k => atM r c c D k i) (t := i * r.toNat + k) (by rw [Nat.add_mul] at hrow; omega)
    have hfl := hfo.len.trans hNN
    repeat' first | (with_reducible (show W _ _ _ _ _); with_reducible refine go2 ?_) | (with_reducible (show W _ _ _ _ _); with_reducible refine sg2 ?_ ?_ <;> intro _) | (with_reducible (show W _ _ _ _ _); with_reducible refine sc2 ?_ ?_ <;> intro _) | (with_reducible (show CallK _ _ _ _ _ _ _ _ _ _ _); with_reducible refine ce2 (at_ok h _ _ ((hget_old hpl).trans hp) hN) ?_) | (with_reducible (show W _ _ (.code (.region 8 _ true) :: _) _ _); with_reducible refine W_draw [(0, []), (1, []), (2, []), (3, []), (4, []), (5, []), (6, [0]), (7, [])] [0] (by kernel_rfl) ?_) | ((with_reducible (show CallK _ _ _ _ _ _ _ _ _ _ _); with_reducible refine cm2 (set_ok hfo _ _ _ hget_new hfl) ?_))
    · rename_i hk2
      refine ⟨j' - 1, by omega, k + 1, by omega, by rw [wrap_suc (by assumption) (by omega)], ?_⟩
      have e := fill_step hc hr (fun i k => atM r c c D k i) hlt hk2
      unfold mturnM
      rw [e]
    · have : k = r.toNat := by omega
      subst this
      refine ⟨j - 1, by omega, i + 1, by omega, by rw [wrap_suc (by assumption) (by omega)], ?_⟩
      rw [Nat.add_mul, Nat.one_mul]
  · have : i = c.toNat := by omega
    subst this
    rw [filled_all (by unfold mturnM; rw [genM_len, Int.toNat_mul hc.1 hr.1]; exact Nat.le_refl _)]

def rowsB (l : Nat) (n m : Int) : Bool := decide (0 ≤ m) && decide ((l : Int) ≤ n) && decide (m ≤ IntKind.i64.wrap (n - (l : Int)))
theorem rows_spec {H0 : MH} {v : MV} {V : List Int} (hv : Sl H0 v V) (tau n m : Int) (H : MH) : Spec Tryd.prog 72 [.agg [v, u64 tau], i64 n, i64 m] H fun u H' => u = bl (rowsB V.length n m) ∧ H' = H := by
  have hlen := len22 hv
  refine Spec.scalar (enterS Tryd.func72 [.tmp 6] ?_)
  repeat' first | (with_reducible (show W _ _ _ _ _); with_reducible refine go2 ?_) | (with_reducible (show W _ _ _ _ _); with_reducible refine sg2 ?_ ?_ <;> intro _) | (with_reducible (show W _ _ _ _ _); with_reducible refine sc2 ?_ ?_ <;> intro _)
  all_goals (simp_all [rowsB]; try (intros; omega))

/-- A reflection, number by number: what a column is times it, and what comes of it; with what the reckoning has met. -/
def sumS (V : List Int) (x : Nat → Int) (g : Int) (n : Nat) : Int × Int := iter (fun i s => ((addM s.1 (mulM (V.getD i 0) (x i)).1).1, bits .or .u8 (bits .or .u8 s.2 (mulM (V.getD i 0) (x i)).2) (addM s.1 (mulM (V.getD i 0) (x i)).1).2)) n (0, g)
def putS (r c : Int) (V : List Int) (m : Int) (k : Nat) (t : Int) (S : List Int × Int) (n : Nat) : List Int × Int :=
  iter (fun i S => (setM r c c S.1 (m + i) k (addM (atM r c c S.1 (m + i) k) (flipM (mulM (V.getD i 0) t).1)).1, bits .or .u8 (bits .or .u8 S.2 (mulM (V.getD i 0) t).2) (addM (atM r c c S.1 (m + i) k) (flipM (mulM (V.getD i 0) t).1)).2)) n S
theorem putS_succ (r c : Int) (V : List Int) (m : Int) (k : Nat) (t : Int) (S : List Int × Int) (n : Nat) : putS r c V m k t S (n + 1) = (setM r c c (putS r c V m k t S n).1 (m + n) k (addM (atM r c c (putS r c V m k t S n).1 (m + n) k) (flipM (mulM (V.getD n 0) t).1)).1,
  bits .or .u8 (bits .or .u8 (putS r c V m k t S n).2 (mulM (V.getD n 0) t).2) (addM (atM r c c (putS r c V m k t S n).1 (m + n) k) (flipM (mulM (V.getD n 0) t).1)).2) := rfl
def colS (r c : Int) (V : List Int) (tau m : Int) (k : Nat) (S : List Int × Int) : List Int × Int :=
  putS r c V m k (mulM tau (sumS V (fun i => atM r c c S.1 (m + i) k) S.2 V.length).1).1
    (S.1, bits .or .u8 (sumS V (fun i => atM r c c S.1 (m + i) k) S.2 V.length).2 (mulM tau (sumS V (fun i => atM r c c S.1 (m + i) k) S.2 V.length).1).2) V.length
def leftS (r c : Int) (V : List Int) (tau m : Int) (n : Nat) (S : List Int × Int) : List Int × Int := iter (colS r c V tau m) n S
theorem sumS_in (V : List Int) (x : Nat → Int) (g : Int) : ∀ n, InU (sumS V x g n).1
  | 0 => zero_in
  | n + 1 => addM_in (sumS_in V x g n) (mulM_in _ _)
def SOk (r c : Int) (S : List Int × Int) : Prop := MatOk r c S.1 ∧ InD S.1
theorem putS_ok {r c : Int} {V : List Int} {m : Int} {k : Nat} {t : Int} {S : List Int × Int} (h : SOk r c S) : ∀ n, SOk r c (putS r c V m k t S n)
  | 0 => h
  | n + 1 => by
    have ih := putS_ok (V := V) (m := m) (k := k) (t := t) h n
    exact ⟨ih.1.set _ _ _, ih.2.setm _ _ _ _ _ (addM_in (atM_in ih.2 _ _ _ _ _) (flip_in _))⟩
theorem colS_ok {r c : Int} {V : List Int} {tau m : Int} {k : Nat} {S : List Int × Int} (h : SOk r c S) : SOk r c (colS r c V tau m k S) := by
  unfold colS
  refine putS_ok ?_ _
  exact ⟨h.1, h.2⟩
theorem leftS_ok {r c : Int} {V : List Int} {tau m : Int} {S : List Int × Int} (h : SOk r c S) : ∀ n, SOk r c (leftS r c V tau m n S)
  | 0 => h
  | n + 1 => colS_ok (leftS_ok h n)

theorem Sl.setq {H : MH} {v : MV} {xs : List Int} (h : Sl H v xs) {q : Nat} {g0 : Int} (hq : hget H q = some ⟨[u8 g0], true⟩) (g : Int) : Sl (H.set q (some ⟨[u8 g], true⟩)) v xs := by
  rcases h with ⟨h1, a, h2⟩ | ⟨p, o, c, ob, h1, h2, h3⟩
  · exact .inl ⟨h1, a, h2⟩
  · by_cases hpq : q = p
    · subst hpq
      refine .inr ⟨q, o, c, _, h1, hget_set_same (hget_lt hq) _, fun i hi => ?_⟩
      have := h3 i hi
      rw [hq] at h2
      cases h2
      rcases Nat.eq_zero_or_pos (o + i) with h0 | h0
      · rw [h0] at this; simp at this
      · rw [List.getElem?_eq_none (by simp; omega)] at this; cases this
    · exact .inr ⟨p, o, c, ob, h1, (hget_set_ne hpq _).trans h2, h3⟩
theorem mat_ne {H : MH} {p q : Nat} {D : List Int} {rw : Bool} {g : Int} (hp : hget H p = some ⟨D.map u64, rw⟩) (hq : hget H q = some ⟨[u8 g], true⟩) : q ≠ p := by
  rintro rfl
  rw [hp] at hq
  simp only [Option.some.injEq, MO.mk.injEq] at hq
  have := hq.1
  match D, this with
  | [], h => simp at h
  | [x], h => simp at h
  | _ :: _ :: _, h => simp at h

theorem left_ptr {r c : Int} {p z q : Nat} {D : List Int} (h : MatOk r c D) (hI : InD D) {v : MV} {V : List Int} {N : Nat} (hN : D.length = N) {H : MH} {rw : Bool} (hp : hget H p = some ⟨D.map u64, rw⟩) (hv : Sl H v V) (hV : InD V) (tau m : Int)
    (hrows : rowsB V.length r m = true) (htau : kindM tau ≠ 1) {g0 : Int} (hq : hget H q = some ⟨[u8 g0], true⟩) :
    Spec Tryd.prog 30 [.agg [v, u64 tau], .ptr q 0, mx r c c p N z, i64 m] H fun u H' => u = .tup [mx r c c H.length N N, i64 0] ∧ H' = H.set q (some ⟨[u8 (leftS r c V tau m c.toNat (D, g0)).2], true⟩) ++ [some ⟨(leftS r c V tau m c.toNat (D, g0)).1.map u64, true⟩] := by
  have hr : 0 ≤ r ∧ r ≤ 4096 := ⟨h.r0, h.r1⟩
  have hc : 0 ≤ c ∧ c ≤ 4096 := ⟨h.c0, h.c1⟩
  have hpl := lt_of_hget hp
  have hNN : (r * c).toNat = N := h.len.symm.trans hN
  have hm : 0 ≤ m ∧ (V.length : Int) ≤ r ∧ m ≤ r - V.length := by
    simp only [rowsB, Bool.and_eq_true, decide_eq_true_eq] at hrows
    have := hrows.2
    rw [wrap_i64 (by omega)] at this
    exact ⟨hrows.1.1, hrows.1.2, this⟩
  have hlen := len22 hv
  have hql := lt_of_hget hq
  have hqp := mat_ne hp hq
  have hpq := Ne.symm hqp
  refine Spec.oneW (Hm := H.set q (some ⟨[u8 (leftS r c V tau m c.toNat (D, g0)).2], true⟩)) (v := fun p => .tup [mx r c c p N N, i64 0]) (q := 3) (J := [some ⟨[v, u64 tau], true⟩, some ⟨[i64 r, i64 c, i64 c, .slice p 0 N z 1], true⟩, some ⟨[i64 r, i64 c, i64 c, .slice (H.length + 3) 0 N N 1], true⟩,
    some ⟨(leftS r c V tau m c.toNat (D, g0)).1.map u64, true⟩, some ⟨[i64 r, i64 c, i64 c, .slice (H.length + 3) 0 N N 1], true⟩]) len_set (set_or (fun q o h => .inl h) (by simp [Cl])) (closed_u64 _) (fun p => by simp [Cl, Cls']) (fun π p _ => by simp [ren, rens]) rfl ?_
  refine enterS Tryd.func30 [.cell 8 56, .tmp 9] ?_
  repeat' first | (with_reducible (show W _ _ _ _ _); with_reducible refine go2 ?_) | (with_reducible (show W _ _ _ _ _); with_reducible refine sg2 ?_ ?_ <;> intro _) | (with_reducible (show W _ _ _ _ _); with_reducible refine sc2 ?_ ?_ <;> intro _) | (with_reducible (show CallK _ _ _ _ _ _ _ _ _ _ _); with_reducible refine ce2 (check_ok h hN _) ?_) | (with_reducible (show CallK _ _ _ _ _ _ _ _ _ _ _); with_reducible refine ce2 (rows_spec hv _ _ _ _) ?_) | (with_reducible (show CallK _ _ _ _ _ _ _ _ _ _ _); with_reducible refine ce2 (kind_spec _ _) ?_) | (with_reducible (show W _ _ (.code (.region 19 _ true) :: _) _ _); with_reducible refine W_draw [(0, []), (1, []), (2, []), (3, []), (4, []), (5, []), (6, []), (7, []), (8, []), (9, []), (10, []), (12, []), (13, []), (14, []), (11, [0]), (15, [0]), (16, [0]), (17, [])] [0] (by kernel_rfl) ?_) | ((with_reducible (show CallK _ _ _ _ _ _ _ _ _ _ _); with_reducible refine cm2 (clone_spec h hN ((hget_old hpl).trans hp)) ?_))
  refine W_for (fun j ρ H' => ∃ k : Nat, k + j = c.toNat ∧ ρ 1 = .ptr q 0 ∧ ρ 3 = i64 m ∧ ρ 4 = .ptr H.length 0 ∧ ρ 8 = .ptr (H.length + 2) 0 ∧ ρ 10 = .ptr (H.length + 4) 0 ∧ ρ 37 = i64 c ∧ ρ 38 = i64 k ∧
    H' = H.set q (some ⟨[u8 (leftS r c V tau m k (D, g0)).2], true⟩) ++ [some ⟨[v, u64 tau], true⟩, some ⟨[i64 r, i64 c, i64 c, .slice p 0 N z 1], true⟩, some ⟨[i64 0, i64 0, i64 0, .lit (.slice none 0 0)], true⟩, some ⟨(leftS r c V tau m k (D, g0)).1.map u64, true⟩, some ⟨[i64 r, i64 c, i64 c, .slice (H.length + 3) 0 N N 1], true⟩]) c.toNat ?_ ?_
  · refine ⟨0, by omega, ?_⟩
    simp [put, args0, leftS, iter, hset_id hq]
  rintro j ρ H' ⟨k, hk, h1, h3, h4, h8, h10, h37, h38, rfl⟩
  have hS := leftS_ok (V := V) (tau := tau) (m := m) (S := (D, g0)) ⟨h, hI⟩ k
  generalize hSe : leftS r c V tau m k (D, g0) = S at hS
  have hSl := hS.1.len.trans hNN
  have hS1 : MatOk r c S.1 := hS.1
  repeat' first | (with_reducible (show W _ _ _ _ _); with_reducible refine go2 ?_) | (with_reducible (show W _ _ _ _ _); with_reducible refine sg2 ?_ ?_ <;> intro _) | (with_reducible (show W _ _ _ _ _); with_reducible refine sc2 ?_ ?_ <;> intro _) | (with_reducible (show W _ _ (.code (.region 19 _ true) :: _) _ _); with_reducible refine W_draw [(0, []), (1, []), (2, []), (3, []), (4, []), (5, []), (6, []), (7, []), (8, []), (9, []), (10, []), (12, []), (13, []), (14, []), (11, [0]), (15, [0]), (16, [0]), (17, [])] [0] (by kernel_rfl) ?_)
  · rename_i hklt
    refine W_for (fun j' ρ H' => ∃ i : Nat, i + j' = V.length ∧ ρ 1 = .ptr q 0 ∧ ρ 3 = i64 m ∧ ρ 4 = .ptr H.length 0 ∧ ρ 8 = .ptr (H.length + 2) 0 ∧ ρ 10 = .ptr (H.length + 4) 0 ∧ ρ 11 = i64 k ∧ ρ 12 = u64 (sumS V (fun i => atM r c c S.1 (m + i) k) S.2 i).1 ∧ ρ 37 = i64 c ∧ ρ 38 = i64 k ∧ ρ 42 = v ∧ ρ 43 = i64 (V.length : Int) ∧ ρ 44 = i64 i ∧
      H' = H.set q (some ⟨[u8 (sumS V (fun i => atM r c c S.1 (m + i) k) S.2 i).2], true⟩) ++ [some ⟨[v, u64 tau], true⟩, some ⟨[i64 r, i64 c, i64 c, .slice p 0 N z 1], true⟩, some ⟨[i64 0, i64 0, i64 0, .lit (.slice none 0 0)], true⟩, some ⟨S.1.map u64, true⟩, some ⟨[i64 r, i64 c, i64 c, .slice (H.length + 3) 0 N N 1], true⟩]) V.length ?_ ?_
    · refine ⟨0, by omega, ?_⟩
      simp [put, sumS, iter, *]
    clear h1 h3 h4 h8 h10 h37 h38
    rintro j' ρ' H' ⟨i, hi, h1, h3, h4, h8, h10, h11, h12, h37, h38, h42, h43, h44, rfl⟩
    have hsi := sumS_in V (fun i => atM r c c S.1 (m + i) k) S.2 i
    have hmi : (i : Int) < V.length → IntKind.i64.wrap (m + i) = m + i := fun h => wrap_i64 (by omega)
    have hia2 : (i : Int) < V.length → iaV (.slice 1 8 (some [.int .u64 0]) true) v (.lit (.int .i64 i)) = some (ixq v i) := fun h => hv.ia (by omega) _ _ _ _
    have hld2 : ∀ (g : Int) (L : MH), (i : Int) < V.length → loadV Tryd.prog 24 (ixq v i) (H.set q (some ⟨[u8 g], true⟩) ++ L) = some (u64 (V.getD i 0)) := fun g L h => ((hv.setq hq g).app L).ld (by rw [ty_24]) (by rw [ty_24]) (by omega)
    repeat' first | (with_reducible (show W _ _ _ _ _); with_reducible refine go2 ?_) | (with_reducible (show W _ _ _ _ _); with_reducible refine sg2 ?_ ?_ <;> intro _) | (with_reducible (show W _ _ _ _ _); with_reducible refine sc2 ?_ ?_ <;> intro _) | (with_reducible (show CallK _ _ _ _ _ _ _ _ _ _ _); with_reducible refine ce2 (at_ok hS1 _ _ (hget_newL len_set) hSl) ?_) | (with_reducible (show W _ _ (.code (.region 19 _ true) :: _) _ _); with_reducible refine W_draw [(0, []), (1, []), (2, []), (3, []), (4, []), (5, []), (6, []), (7, []), (8, []), (9, []), (10, []), (12, []), (13, []), (14, []), (11, [0]), (15, [0]), (16, [0]), (17, [])] [0] (by kernel_rfl) ?_) | ((with_reducible (show CallK _ _ _ _ _ _ _ _ _ _ _); first | (with_reducible refine cm2 (cmul_spec _ _ _ (hget_sa hql)) ?_) | (with_reducible refine cm2 (cadd_spec hsi (mulM_in _ _) _ (hget_sa hql)) ?_)))
    · exact ⟨j' - 1, by omega, i + 1, by omega, rfl, by rw [wrap_suc (n := (V.length : Int)) (by assumption) (by omega)], rfl⟩
    have hiv : i = V.length := by omega
    subst hiv
    clear h42 h43 h44 hi hmi hia2 hld2
    have hpe : ∀ (S' : List Int × Int) (t : Int), putS r c V m k t S' 0 = S' := fun _ _ => rfl
    refine W_for (fun j' ρ H' => ∃ i : Nat, i + j' = V.length ∧ ρ 1 = .ptr q 0 ∧ ρ 3 = i64 m ∧ ρ 4 = .ptr H.length 0 ∧ ρ 8 = .ptr (H.length + 2) 0 ∧ ρ 10 = .ptr (H.length + 4) 0 ∧ ρ 11 = i64 k ∧ ρ 12 = u64 (mulM tau (sumS V (fun i => atM r c c S.1 (m + i) k) S.2 V.length).1).1 ∧ ρ 37 = i64 c ∧ ρ 38 = i64 k ∧ ρ 68 = v ∧ ρ 69 = i64 (V.length : Int) ∧ ρ 70 = i64 i ∧
      H' = H.set q (some ⟨[u8 (putS r c V m k (mulM tau (sumS V (fun i => atM r c c S.1 (m + i) k) S.2 V.length).1).1 (S.1, bits .or .u8 (sumS V (fun i => atM r c c S.1 (m + i) k) S.2 V.length).2 (mulM tau (sumS V (fun i => atM r c c S.1 (m + i) k) S.2 V.length).1).2) i).2], true⟩) ++
        [some ⟨[v, u64 tau], true⟩, some ⟨[i64 r, i64 c, i64 c, .slice p 0 N z 1], true⟩, some ⟨[i64 0, i64 0, i64 0, .lit (.slice none 0 0)], true⟩, some ⟨(putS r c V m k (mulM tau (sumS V (fun i => atM r c c S.1 (m + i) k) S.2 V.length).1).1 (S.1, bits .or .u8 (sumS V (fun i => atM r c c S.1 (m + i) k) S.2 V.length).2 (mulM tau (sumS V (fun i => atM r c c S.1 (m + i) k) S.2 V.length).1).2) i).1.map u64, true⟩, some ⟨[i64 r, i64 c, i64 c, .slice (H.length + 3) 0 N N 1], true⟩]) V.length ?_ ?_
    · refine ⟨0, by omega, ?_⟩
      simp [put, hpe, *]
    clear h1 h3 h4 h8 h10 h11 h12 h37 h38
    rintro j'' ρ'' H' ⟨i, hi, h1, h3, h4, h8, h10, h11, h12, h37, h38, h68, h69, h70, rfl⟩
    have hT := putS_ok (V := V) (m := m) (k := k) (t := (mulM tau (sumS V (fun i => atM r c c S.1 (m + i) k) S.2 V.length).1).1) (S := (S.1, bits .or .u8 (sumS V (fun i => atM r c c S.1 (m + i) k) S.2 V.length).2 (mulM tau (sumS V (fun i => atM r c c S.1 (m + i) k) S.2 V.length).1).2)) hS i
    have hcol : i = V.length → putS r c V m k (mulM tau (sumS V (fun i => atM r c c S.1 (m + i) k) S.2 V.length).1).1 (S.1, bits .or .u8 (sumS V (fun i => atM r c c S.1 (m + i) k) S.2 V.length).2 (mulM tau (sumS V (fun i => atM r c c S.1 (m + i) k) S.2 V.length).1).2) i = leftS r c V tau m (k + 1) (D, g0) := by
      intro hiv
      subst hiv
      rw [← hSe]; rfl
    have hstep := putS_succ r c V m k (mulM tau (sumS V (fun i => atM r c c S.1 (m + i) k) S.2 V.length).1).1 (S.1, bits .or .u8 (sumS V (fun i => atM r c c S.1 (m + i) k) S.2 V.length).2 (mulM tau (sumS V (fun i => atM r c c S.1 (m + i) k) S.2 V.length).1).2) i
    generalize putS r c V m k (mulM tau (sumS V (fun i => atM r c c S.1 (m + i) k) S.2 V.length).1).1 (S.1, bits .or .u8 (sumS V (fun i => atM r c c S.1 (m + i) k) S.2 V.length).2 (mulM tau (sumS V (fun i => atM r c c S.1 (m + i) k) S.2 V.length).1).2) i = T at hT hcol hstep
    have hTl := hT.1.len.trans hNN
    have hT1 : MatOk r c T.1 := hT.1
    have hat := fun i k => atM_in hT.2 r c c i k
    have hmi : (i : Int) < V.length → IntKind.i64.wrap (m + i) = m + i := fun h => wrap_i64 (by omega)
    have hia2 : (i : Int) < V.length → iaV (.slice 1 8 (some [.int .u64 0]) true) v (.lit (.int .i64 i)) = some (ixq v i) := fun h => hv.ia (by omega) _ _ _ _
    have hld2 : ∀ (g : Int) (L : MH), (i : Int) < V.length → loadV Tryd.prog 24 (ixq v i) (H.set q (some ⟨[u8 g], true⟩) ++ L) = some (u64 (V.getD i 0)) := fun g L h => ((hv.setq hq g).app L).ld (by rw [ty_24]) (by rw [ty_24]) (by omega)
    repeat' first | (with_reducible (show W _ _ _ _ _); with_reducible refine go2 ?_) | (with_reducible (show W _ _ _ _ _); with_reducible refine sg2 ?_ ?_ <;> intro _) | (with_reducible (show W _ _ _ _ _); with_reducible refine sc2 ?_ ?_ <;> intro _) | (with_reducible (show CallK _ _ _ _ _ _ _ _ _ _ _); with_reducible refine ce2 (at_ok hT1 _ _ (hget_newL len_set) hTl) ?_) | (with_reducible (show W _ _ (.code (.region 19 _ true) :: _) _ _); with_reducible refine W_draw [(0, []), (1, []), (2, []), (3, []), (4, []), (5, []), (6, []), (7, []), (8, []), (9, []), (10, []), (12, []), (13, []), (14, []), (11, [0]), (15, [0]), (16, [0]), (17, [])] [0] (by kernel_rfl) ?_) | ((with_reducible (show CallK _ _ _ _ _ _ _ _ _ _ _); first | (with_reducible refine cm2 (cmul_spec _ _ _ (hget_sa hql)) ?_) | (with_reducible refine cm2 (csub_spec (hat _ _) _ _ (hget_sa hql)) ?_) | (with_reducible refine cm2 (set_ok hT1 _ _ _ (hget_newL len_set) hTl) ?_)))
    · refine ⟨j'' - 1, by omega, i + 1, by omega, by rw [wrap_suc (n := (V.length : Int)) (by assumption) (by omega)], ?_⟩
      rw [hstep]
    · have e := hcol (by omega)
      subst e
      exact ⟨j - 1, by omega, k + 1, by omega, by rw [wrap_suc (by assumption) (by omega)], rfl⟩
  · have : k = c.toNat := by omega
    subst this
    rw [hSe]
end Go.Proofs.YtcikcinkjbbnhaaDoor.M

/- A reflection of a matrix's rows, with nobody to remember; of its columns; both. -/
set_option linter.unusedSimpArgs false
set_option linter.unusedVariables false
set_option maxRecDepth 10000
set_option maxHeartbeats 4000000
namespace Go.Proofs.YtcikcinkjbbnhaaDoor.M
open Go Go.Proofs

theorem left_nil {r c : Int} {p z : Nat} {D : List Int} (h : MatOk r c D) (hI : InD D) {v : MV} {V : List Int} {N : Nat} (hN : D.length = N) {H : MH} {rw : Bool} (hp : hget H p = some ⟨D.map u64, rw⟩) (hv : Sl H v V) (hV : InD V) (tau m : Int)
    (hrows : rowsB V.length r m = true) (htau : kindM tau ≠ 1) (g0 : Int) :
    Spec Tryd.prog 30 [.agg [v, u64 tau], nilp, mx r c c p N z, i64 m] H fun u H' => u = .tup [mx r c c H.length N N, i64 0] ∧ H' = H ++ [some ⟨(leftS r c V tau m c.toNat (D, g0)).1.map u64, true⟩] := by
  have hr : 0 ≤ r ∧ r ≤ 4096 := ⟨h.r0, h.r1⟩
  have hc : 0 ≤ c ∧ c ≤ 4096 := ⟨h.c0, h.c1⟩
  have hpl := lt_of_hget hp
  have hNN : (r * c).toNat = N := h.len.symm.trans hN
  have hm : 0 ≤ m ∧ (V.length : Int) ≤ r ∧ m ≤ r - V.length := by
    simp only [rowsB, Bool.and_eq_true, decide_eq_true_eq] at hrows
    have := hrows.2
    rw [wrap_i64 (by omega)] at this
    exact ⟨hrows.1.1, hrows.1.2, this⟩
  have hlen := len22 hv
  skip
  refine Spec.oneW (Hm := H) (v := fun p => .tup [mx r c c p N N, i64 0]) (q := 3) (J := [some ⟨[v, u64 tau], true⟩, some ⟨[i64 r, i64 c, i64 c, .slice p 0 N z 1], true⟩, some ⟨[i64 r, i64 c, i64 c, .slice (H.length + 3) 0 N N 1], true⟩,
    some ⟨(leftS r c V tau m c.toNat (D, g0)).1.map u64, true⟩, some ⟨[i64 r, i64 c, i64 c, .slice (H.length + 3) 0 N N 1], true⟩]) rfl (fun q o h => .inl h) (closed_u64 _) (fun p => by simp [Cl, Cls']) (fun π p _ => by simp [ren, rens]) rfl ?_
  refine enterS Tryd.func30 [.cell 8 56, .tmp 9] ?_
  repeat' first | (with_reducible (show W _ _ _ _ _); with_reducible refine go2 ?_) | (with_reducible (show W _ _ _ _ _); with_reducible refine sg2 ?_ ?_ <;> intro _) | (with_reducible (show W _ _ _ _ _); with_reducible refine sc2 ?_ ?_ <;> intro _) | (with_reducible (show CallK _ _ _ _ _ _ _ _ _ _ _); with_reducible refine ce2 (check_ok h hN _) ?_) | (with_reducible (show CallK _ _ _ _ _ _ _ _ _ _ _); with_reducible refine ce2 (rows_spec hv _ _ _ _) ?_) | (with_reducible (show CallK _ _ _ _ _ _ _ _ _ _ _); with_reducible refine ce2 (kind_spec _ _) ?_) | (with_reducible (show W _ _ (.code (.region 19 _ true) :: _) _ _); with_reducible refine W_draw [(0, []), (1, []), (2, []), (3, []), (4, []), (5, []), (6, []), (7, []), (8, []), (9, []), (10, []), (12, []), (13, []), (14, []), (11, [0]), (15, [0]), (16, [0]), (17, [])] [0] (by kernel_rfl) ?_) | ((with_reducible (show CallK _ _ _ _ _ _ _ _ _ _ _); with_reducible refine cm2 (clone_spec h hN ((hget_old hpl).trans hp)) ?_))
  refine W_for (fun j ρ H' => ∃ k : Nat, k + j = c.toNat ∧ ρ 1 = nilp ∧ ρ 3 = i64 m ∧ ρ 4 = .ptr H.length 0 ∧ ρ 8 = .ptr (H.length + 2) 0 ∧ ρ 10 = .ptr (H.length + 4) 0 ∧ ρ 37 = i64 c ∧ ρ 38 = i64 k ∧
    H' = H ++ [some ⟨[v, u64 tau], true⟩, some ⟨[i64 r, i64 c, i64 c, .slice p 0 N z 1], true⟩, some ⟨[i64 0, i64 0, i64 0, .lit (.slice none 0 0)], true⟩, some ⟨(leftS r c V tau m k (D, g0)).1.map u64, true⟩, some ⟨[i64 r, i64 c, i64 c, .slice (H.length + 3) 0 N N 1], true⟩]) c.toNat ?_ ?_
  · refine ⟨0, by omega, ?_⟩
    simp [put, args0, leftS, iter, List.append_nil]
  rintro j ρ H' ⟨k, hk, h1, h3, h4, h8, h10, h37, h38, rfl⟩
  have hS := leftS_ok (V := V) (tau := tau) (m := m) (S := (D, g0)) ⟨h, hI⟩ k
  generalize hSe : leftS r c V tau m k (D, g0) = S at hS
  have hSl := hS.1.len.trans hNN
  have hS1 : MatOk r c S.1 := hS.1
  repeat' first | (with_reducible (show W _ _ _ _ _); with_reducible refine go2 ?_) | (with_reducible (show W _ _ _ _ _); with_reducible refine sg2 ?_ ?_ <;> intro _) | (with_reducible (show W _ _ _ _ _); with_reducible refine sc2 ?_ ?_ <;> intro _) | (with_reducible (show W _ _ (.code (.region 19 _ true) :: _) _ _); with_reducible refine W_draw [(0, []), (1, []), (2, []), (3, []), (4, []), (5, []), (6, []), (7, []), (8, []), (9, []), (10, []), (12, []), (13, []), (14, []), (11, [0]), (15, [0]), (16, [0]), (17, [])] [0] (by kernel_rfl) ?_)
  · rename_i hklt
    refine W_for (fun j' ρ H' => ∃ i : Nat, i + j' = V.length ∧ ρ 1 = nilp ∧ ρ 3 = i64 m ∧ ρ 4 = .ptr H.length 0 ∧ ρ 8 = .ptr (H.length + 2) 0 ∧ ρ 10 = .ptr (H.length + 4) 0 ∧ ρ 11 = i64 k ∧ ρ 12 = u64 (sumS V (fun i => atM r c c S.1 (m + i) k) S.2 i).1 ∧ ρ 37 = i64 c ∧ ρ 38 = i64 k ∧ ρ 42 = v ∧ ρ 43 = i64 (V.length : Int) ∧ ρ 44 = i64 i ∧
      H' = H ++ [some ⟨[v, u64 tau], true⟩, some ⟨[i64 r, i64 c, i64 c, .slice p 0 N z 1], true⟩, some ⟨[i64 0, i64 0, i64 0, .lit (.slice none 0 0)], true⟩, some ⟨S.1.map u64, true⟩, some ⟨[i64 r, i64 c, i64 c, .slice (H.length + 3) 0 N N 1], true⟩]) V.length ?_ ?_
    · refine ⟨0, by omega, ?_⟩
      simp [put, sumS, iter, *]
    clear h1 h3 h4 h8 h10 h37 h38
    rintro j' ρ' H' ⟨i, hi, h1, h3, h4, h8, h10, h11, h12, h37, h38, h42, h43, h44, rfl⟩
    have hsi := sumS_in V (fun i => atM r c c S.1 (m + i) k) S.2 i
    have hmi : (i : Int) < V.length → IntKind.i64.wrap (m + i) = m + i := fun h => wrap_i64 (by omega)
    have hia2 : (i : Int) < V.length → iaV (.slice 1 8 (some [.int .u64 0]) true) v (.lit (.int .i64 i)) = some (ixq v i) := fun h => hv.ia (by omega) _ _ _ _
    have hld2 : ∀ (L : MH), (i : Int) < V.length → loadV Tryd.prog 24 (ixq v i) (H ++ L) = some (u64 (V.getD i 0)) := fun L h => (hv.app L).ld (by rw [ty_24]) (by rw [ty_24]) (by omega)
    repeat' first | (with_reducible (show W _ _ _ _ _); with_reducible refine go2 ?_) | (with_reducible (show W _ _ _ _ _); with_reducible refine sg2 ?_ ?_ <;> intro _) | (with_reducible (show W _ _ _ _ _); with_reducible refine sc2 ?_ ?_ <;> intro _) | (with_reducible (show CallK _ _ _ _ _ _ _ _ _ _ _); with_reducible refine ce2 (at_ok hS1 _ _ (hget_newL rfl) hSl) ?_) | (with_reducible (show CallK _ _ _ _ _ _ _ _ _ _ _); with_reducible refine ce2 (cmul_nil _ _ _) ?_) | (with_reducible (show CallK _ _ _ _ _ _ _ _ _ _ _); with_reducible refine ce2 (cadd_nil hsi (mulM_in _ _) _) ?_) | (with_reducible (show W _ _ (.code (.region 19 _ true) :: _) _ _); with_reducible refine W_draw [(0, []), (1, []), (2, []), (3, []), (4, []), (5, []), (6, []), (7, []), (8, []), (9, []), (10, []), (12, []), (13, []), (14, []), (11, [0]), (15, [0]), (16, [0]), (17, [])] [0] (by kernel_rfl) ?_)
    · exact ⟨j' - 1, by omega, i + 1, by omega, rfl, by rw [wrap_suc (n := (V.length : Int)) (by assumption) (by omega)]⟩
    have hiv : i = V.length := by omega
    subst hiv
    clear h42 h43 h44 hi hmi hia2 hld2
    have hpe : ∀ (S' : List Int × Int) (t : Int), putS r c V m k t S' 0 = S' := fun _ _ => rfl
    refine W_for (fun j' ρ H' => ∃ i : Nat, i + j' = V.length ∧ ρ 1 = nilp ∧ ρ 3 = i64 m ∧ ρ 4 = .ptr H.length 0 ∧ ρ 8 = .ptr (H.length + 2) 0 ∧ ρ 10 = .ptr (H.length + 4) 0 ∧ ρ 11 = i64 k ∧ ρ 12 = u64 (mulM tau (sumS V (fun i => atM r c c S.1 (m + i) k) S.2 V.length).1).1 ∧ ρ 37 = i64 c ∧ ρ 38 = i64 k ∧ ρ 68 = v ∧ ρ 69 = i64 (V.length : Int) ∧ ρ 70 = i64 i ∧
      H' = H ++
        [some ⟨[v, u64 tau], true⟩, some ⟨[i64 r, i64 c, i64 c, .slice p 0 N z 1], true⟩, some ⟨[i64 0, i64 0, i64 0, .lit (.slice none 0 0)], true⟩, some ⟨(putS r c V m k (mulM tau (sumS V (fun i => atM r c c S.1 (m + i) k) S.2 V.length).1).1 (S.1, bits .or .u8 (sumS V (fun i => atM r c c S.1 (m + i) k) S.2 V.length).2 (mulM tau (sumS V (fun i => atM r c c S.1 (m + i) k) S.2 V.length).1).2) i).1.map u64, true⟩, some ⟨[i64 r, i64 c, i64 c, .slice (H.length + 3) 0 N N 1], true⟩]) V.length ?_ ?_
    · refine ⟨0, by omega, ?_⟩
      simp [put, hpe, *]
    clear h1 h3 h4 h8 h10 h11 h12 h37 h38
    rintro j'' ρ'' H' ⟨i, hi, h1, h3, h4, h8, h10, h11, h12, h37, h38, h68, h69, h70, rfl⟩
    have hT := putS_ok (V := V) (m := m) (k := k) (t := (mulM tau (sumS V (fun i => atM r c c S.1 (m + i) k) S.2 V.length).1).1) (S := (S.1, bits .or .u8 (sumS V (fun i => atM r c c S.1 (m + i) k) S.2 V.length).2 (mulM tau (sumS V (fun i => atM r c c S.1 (m + i) k) S.2 V.length).1).2)) hS i
    have hcol : i = V.length → putS r c V m k (mulM tau (sumS V (fun i => atM r c c S.1 (m + i) k) S.2 V.length).1).1 (S.1, bits .or .u8 (sumS V (fun i => atM r c c S.1 (m + i) k) S.2 V.length).2 (mulM tau (sumS V (fun i => atM r c c S.1 (m + i) k) S.2 V.length).1).2) i = leftS r c V tau m (k + 1) (D, g0) := by
      intro hiv
      subst hiv
      rw [← hSe]; rfl
    have hstep := putS_succ r c V m k (mulM tau (sumS V (fun i => atM r c c S.1 (m + i) k) S.2 V.length).1).1 (S.1, bits .or .u8 (sumS V (fun i => atM r c c S.1 (m + i) k) S.2 V.length).2 (mulM tau (sumS V (fun i => atM r c c S.1 (m + i) k) S.2 V.length).1).2) i
    generalize putS r c V m k (mulM tau (sumS V (fun i => atM r c c S.1 (m + i) k) S.2 V.length).1).1 (S.1, bits .or .u8 (sumS V (fun i => atM r c c S.1 (m + i) k) S.2 V.length).2 (mulM tau (sumS V (fun i => atM r c c S.1 (m + i) k) S.2 V.length).1).2) i = T at hT hcol hstep
    have hTl := hT.1.len.trans hNN
    have hT1 : MatOk r c T.1 := hT.1
    have hat := fun i k => atM_in hT.2 r c c i k
    have hmi : (i : Int) < V.length → IntKind.i64.wrap (m + i) = m + i := fun h => wrap_i64 (by omega)
    have hia2 : (i : Int) < V.length → iaV (.slice 1 8 (some [.int .u64 0]) true) v (.lit (.int .i64 i)) = some (ixq v i) := fun h => hv.ia (by omega) _ _ _ _
    have hld2 : ∀ (L : MH), (i : Int) < V.length → loadV Tryd.prog 24 (ixq v i) (H ++ L) = some (u64 (V.getD i 0)) := fun L h => (hv.app L).ld (by rw [ty_24]) (by rw [ty_24]) (by omega)
    repeat' first | (with_reducible (show W _ _ _ _ _); with_reducible refine go2 ?_) | (with_reducible (show W _ _ _ _ _); with_reducible refine sg2 ?_ ?_ <;> intro _) | (with_reducible (show W _ _ _ _ _); with_reducible refine sc2 ?_ ?_ <;> intro _) | (with_reducible (show CallK _ _ _ _ _ _ _ _ _ _ _); with_reducible refine ce2 (at_ok hT1 _ _ (hget_newL rfl) hTl) ?_) | (with_reducible (show CallK _ _ _ _ _ _ _ _ _ _ _); with_reducible refine ce2 (cmul_nil _ _ _) ?_) | (with_reducible (show CallK _ _ _ _ _ _ _ _ _ _ _); with_reducible refine ce2 (cadd_nil hsi (mulM_in _ _) _) ?_) | (with_reducible (show W _ _ (.code (.region 19 _ true) :: _) _ _); with_reducible refine W_draw [(0, []), (1, []), (2, []), (3, []), (4, []), (5, []), (6, []), (7, []), (8, []), (9, []), (10, []), (12, []), (13, []), (14, []), (11, [0]), (15, [0]), (16, [0]), (17, [])] [0] (by kernel_rfl) ?_) | ((with_reducible (show CallK _ _ _ _ _ _ _ _ _ _ _); first | (with_reducible refine cm2 (csub_nil (hat _ _) _ _) ?_) | (with_reducible refine cm2 (set_ok hT1 _ _ _ (hget_newL rfl) hTl) ?_)))
    · refine ⟨j'' - 1, by omega, i + 1, by omega, by rw [wrap_suc (n := (V.length : Int)) (by assumption) (by omega)], ?_⟩
      rw [hstep]
    · have e := hcol (by omega)
      subst e
      exact ⟨j - 1, by omega, k + 1, by omega, by rw [wrap_suc (by assumption) (by omega)], rfl⟩
  · have : k = c.toNat := by omega
    subst this
    rw [hSe]

abbrev mx0 : MV := .agg [i64 0, i64 0, i64 0, .lit (.slice none 0 0)]
/-- What doesn't fit. -/
theorem left_bad {r c : Int} {p z : Nat} {D : List Int} (h : MatOk r c D) {v : MV} {V : List Int} {N : Nat} (hN : D.length = N) {H : MH} (cp : MV) (hv : Sl H v V) (tau m : Int) (hrows : rowsB V.length r m = false) :
    Spec Tryd.prog 30 [.agg [v, u64 tau], cp, mx r c c p N z, i64 m] H fun u H' => u = .tup [mx0, i64 4] ∧ H' = H := by
  refine Spec.scalar (enterS Tryd.func30 [.cell 8 56, .tmp 9] ?_)
  repeat' first | (with_reducible (show W _ _ _ _ _); with_reducible refine go2 ?_) | (with_reducible (show W _ _ _ _ _); with_reducible refine sg2 ?_ ?_ <;> intro _) | (with_reducible (show W _ _ _ _ _); with_reducible refine sc2 ?_ ?_ <;> intro _) | (with_reducible (show CallK _ _ _ _ _ _ _ _ _ _ _); with_reducible refine ce2 (check_ok h hN _) ?_) | (with_reducible (show CallK _ _ _ _ _ _ _ _ _ _ _); with_reducible refine ce2 (rows_spec hv _ _ _ _) ?_) | (with_reducible (show W _ _ (.code (.region 19 _ true) :: _) _ _); with_reducible refine W_draw [(0, []), (1, []), (2, []), (3, []), (4, []), (5, []), (6, []), (7, []), (8, []), (9, []), (10, []), (12, []), (13, []), (14, []), (11, [0]), (15, [0]), (16, [0]), (17, [])] [0] (by kernel_rfl) ?_)
  all_goals trivial
theorem right_bad {r c : Int} {p z : Nat} {D : List Int} (h : MatOk r c D) {v : MV} {V : List Int} {N : Nat} (hN : D.length = N) {H : MH} (cp : MV) (hv : Sl H v V) (tau m : Int) (hrows : rowsB V.length c m = false) :
    Spec Tryd.prog 91 [.agg [v, u64 tau], cp, mx r c c p N z, i64 m] H fun u H' => u = .tup [mx0, i64 4] ∧ H' = H := by
  refine Spec.scalar (enterS Tryd.func91 [.cell 8 56, .tmp 9] ?_)
  repeat' first | (with_reducible (show W _ _ _ _ _); with_reducible refine go2 ?_) | (with_reducible (show W _ _ _ _ _); with_reducible refine sg2 ?_ ?_ <;> intro _) | (with_reducible (show W _ _ _ _ _); with_reducible refine sc2 ?_ ?_ <;> intro _) | (with_reducible (show CallK _ _ _ _ _ _ _ _ _ _ _); with_reducible refine ce2 (check_ok h hN _) ?_) | (with_reducible (show CallK _ _ _ _ _ _ _ _ _ _ _); with_reducible refine ce2 (rows_spec hv _ _ _ _) ?_) | (with_reducible (show W _ _ (.code (.region 3 _ true) :: _) _ _); with_reducible refine W_draw [(0, []), (1, []), (2, []), (4, []), (9, []), (3, [0, 9]), (5, [9]), (6, []), (7, []), (8, []), (10, []), (11, [])] [0, 9] (by kernel_rfl) ?_)
  all_goals trivial

/-- A reflection, or none. -/
def leftR (r c : Int) (V : List Int) (tau m : Int) (S : List Int × Int) : List Int × Int := if kindM tau = 1 then S else leftS r c V tau m c.toNat S
theorem leftR_ok {r c : Int} {V : List Int} {tau m : Int} {S : List Int × Int} (h : SOk r c S) : SOk r c (leftR r c V tau m S) := by
  unfold leftR
  split
  · exact h
  · exact leftS_ok h _
theorem left_zero {r c : Int} {p z : Nat} {D : List Int} (h : MatOk r c D) {v : MV} {V : List Int} {N : Nat} (hN : D.length = N) {H : MH} {rw : Bool} (hp : hget H p = some ⟨D.map u64, rw⟩) (cp : MV) (hv : Sl H v V) (tau m : Int) (hrows : rowsB V.length r m = true) (htau : kindM tau = 1) :
    Spec Tryd.prog 30 [.agg [v, u64 tau], cp, mx r c c p N z, i64 m] H fun u H' => u = .tup [mx r c c H.length N N, i64 0] ∧ H' = H ++ [some ⟨D.map u64, true⟩] := by
  have hpl := lt_of_hget hp
  refine Spec.oneW (Hm := H) (v := fun p => .tup [mx r c c p N N, i64 0]) (q := 3) (J := [some ⟨[v, u64 tau], true⟩, some ⟨[i64 r, i64 c, i64 c, .slice p 0 N z 1], true⟩, some ⟨[i64 r, i64 c, i64 c, .slice (H.length + 3) 0 N N 1], true⟩,
    some ⟨D.map u64, true⟩, some ⟨[i64 r, i64 c, i64 c, .slice (H.length + 3) 0 N N 1], true⟩]) rfl (fun q o h => .inl h) (closed_u64 _) (fun p => by simp [Cl, Cls']) (fun π p _ => by simp [ren, rens]) rfl ?_
  refine enterS Tryd.func30 [.cell 8 56, .tmp 9] ?_
  repeat' first | (with_reducible (show W _ _ _ _ _); with_reducible refine go2 ?_) | (with_reducible (show W _ _ _ _ _); with_reducible refine sg2 ?_ ?_ <;> intro _) | (with_reducible (show W _ _ _ _ _); with_reducible refine sc2 ?_ ?_ <;> intro _) | (with_reducible (show CallK _ _ _ _ _ _ _ _ _ _ _); with_reducible refine ce2 (check_ok h hN _) ?_) | (with_reducible (show CallK _ _ _ _ _ _ _ _ _ _ _); with_reducible refine ce2 (rows_spec hv _ _ _ _) ?_) | (with_reducible (show CallK _ _ _ _ _ _ _ _ _ _ _); with_reducible refine ce2 (kind_spec _ _) ?_) | (with_reducible (show W _ _ (.code (.region 19 _ true) :: _) _ _); with_reducible refine W_draw [(0, []), (1, []), (2, []), (3, []), (4, []), (5, []), (6, []), (7, []), (8, []), (9, []), (10, []), (12, []), (13, []), (14, []), (11, [0]), (15, [0]), (16, [0]), (17, [])] [0] (by kernel_rfl) ?_) | ((with_reducible (show CallK _ _ _ _ _ _ _ _ _ _ _); with_reducible refine cm2 (clone_spec h hN ((hget_old hpl).trans hp)) ?_))
  all_goals trivial
theorem left_n {r c : Int} {p z : Nat} {D : List Int} (h : MatOk r c D) (hI : InD D) {v : MV} {V : List Int} {N : Nat} (hN : D.length = N) {H : MH} {rw : Bool} (hp : hget H p = some ⟨D.map u64, rw⟩) (hv : Sl H v V) (hV : InD V) (tau m : Int) (hrows : rowsB V.length r m = true) (g0 : Int) :
    Spec Tryd.prog 30 [.agg [v, u64 tau], nilp, mx r c c p N z, i64 m] H fun u H' => u = .tup [mx r c c H.length N N, i64 0] ∧ H' = H ++ [some ⟨(leftR r c V tau m (D, g0)).1.map u64, true⟩] := by
  unfold leftR
  by_cases htau : kindM tau = 1
  · rw [if_pos htau]; exact left_zero h hN hp _ hv tau m hrows htau
  · rw [if_neg htau]; exact left_nil h hI hN hp hv hV tau m hrows htau g0
theorem left_p {r c : Int} {p z q : Nat} {D : List Int} (h : MatOk r c D) (hI : InD D) {v : MV} {V : List Int} {N : Nat} (hN : D.length = N) {H : MH} {rw : Bool} (hp : hget H p = some ⟨D.map u64, rw⟩) (hv : Sl H v V) (hV : InD V) (tau m : Int) (hrows : rowsB V.length r m = true) {g0 : Int} (hq : hget H q = some ⟨[u8 g0], true⟩) :
    Spec Tryd.prog 30 [.agg [v, u64 tau], .ptr q 0, mx r c c p N z, i64 m] H fun u H' => u = .tup [mx r c c H.length N N, i64 0] ∧ H' = H.set q (some ⟨[u8 (leftR r c V tau m (D, g0)).2], true⟩) ++ [some ⟨(leftR r c V tau m (D, g0)).1.map u64, true⟩] := by
  unfold leftR
  by_cases htau : kindM tau = 1
  · rw [if_pos htau, hset_id hq]; exact left_zero h hN hp _ hv tau m hrows htau
  · rw [if_neg htau]; exact left_ptr h hI hN hp hv hV tau m hrows htau hq

def rightR (r c : Int) (V : List Int) (tau m : Int) (S : List Int × Int) : List Int × Int :=
  (mturnM c r (leftR c r V tau m (mturnM r c S.1, S.2)).1, (leftR c r V tau m (mturnM r c S.1, S.2)).2)
theorem mturn_in {r c : Int} {D : List Int} (h : InD D) : InD (mturnM r c D) := by
  intro x hx
  simp only [mturnM, genM, List.mem_map] at hx
  obtain ⟨t, _, rfl⟩ := hx
  exact atM_in h _ _ _ _ _
theorem rightR_ok {r c : Int} {V : List Int} {tau m : Int} {S : List Int × Int} (h : SOk r c S) : SOk r c (rightR r c V tau m S) := by
  have h1 : SOk c r (mturnM r c S.1, S.2) := ⟨mturn_ok h.1, mturn_in h.2⟩
  have h2 := leftR_ok (V := V) (tau := tau) (m := m) h1
  exact ⟨mturn_ok h2.1, mturn_in h2.2⟩
theorem right_n {r c : Int} {p z : Nat} {D : List Int} (h : MatOk r c D) (hI : InD D) {v : MV} {V : List Int} {N : Nat} (hN : D.length = N) {H : MH} {rw : Bool} (hp : hget H p = some ⟨D.map u64, rw⟩) (hv : Sl H v V) (hV : InD V) (tau m : Int) (hrows : rowsB V.length c m = true) (g0 : Int) :
    Spec Tryd.prog 91 [.agg [v, u64 tau], nilp, mx r c c p N z, i64 m] H fun u H' => u = .tup [mx r c c H.length N N, i64 0] ∧ H' = H ++ [some ⟨(rightR r c V tau m (D, g0)).1.map u64, true⟩] := by
  have hpl := lt_of_hget hp
  have ht := mturn_ok h
  have htI := mturn_in (r := r) (c := c) hI
  have htN : (mturnM r c D).length = N := by rw [ht.len, Int.mul_comm, ← h.len]; exact hN
  have hL := leftR_ok (V := V) (tau := tau) (m := m) (S := (mturnM r c D, g0)) ⟨ht, htI⟩
  have hLN : (leftR c r V tau m (mturnM r c D, g0)).1.length = N := by rw [hL.1.len, ← ht.len]; exact htN
  have hL1 : MatOk c r (leftR c r V tau m (mturnM r c D, g0)).1 := hL.1
  refine Spec.oneW (Hm := H) (v := fun p => .tup [mx r c c p N N, i64 0]) (q := 6) (J := [some ⟨[v, u64 tau], true⟩, some ⟨[i64 r, i64 c, i64 c, .slice p 0 N z 1], true⟩, some ⟨[i64 r, i64 c, i64 c, .slice (H.length + 6) 0 N N 1], true⟩,
    some ⟨[i64 c, i64 r, i64 r, .slice (H.length + 5) 0 N N 1], true⟩, some ⟨(mturnM r c D).map u64, true⟩, some ⟨(leftR c r V tau m (mturnM r c D, g0)).1.map u64, true⟩, some ⟨(rightR r c V tau m (D, g0)).1.map u64, true⟩]) rfl (fun q o h => .inl h) (closed_u64 _) (fun p => by simp [Cl, Cls']) (fun π p _ => by simp [ren, rens]) rfl ?_
  refine enterS Tryd.func91 [.cell 8 56, .tmp 9] ?_
  repeat' first | (with_reducible (show W _ _ _ _ _); with_reducible refine go2 ?_) | (with_reducible (show W _ _ _ _ _); with_reducible refine sg2 ?_ ?_ <;> intro _) | (with_reducible (show W _ _ _ _ _); with_reducible refine sc2 ?_ ?_ <;> intro _) | (with_reducible (show CallK _ _ _ _ _ _ _ _ _ _ _); with_reducible refine ce2 (check_ok h hN _) ?_) | (with_reducible (show CallK _ _ _ _ _ _ _ _ _ _ _); with_reducible refine ce2 (rows_spec hv _ _ _ _) ?_) | (with_reducible (show W _ _ (.code (.region 3 _ true) :: _) _ _); with_reducible refine W_draw [(0, []), (1, []), (2, []), (4, []), (9, []), (3, [0, 9]), (5, [9]), (6, []), (7, []), (8, []), (10, []), (11, [])] [0, 9] (by kernel_rfl) ?_) | ((with_reducible (show CallK _ _ _ _ _ _ _ _ _ _ _); first | (with_reducible refine cm2 (mturn_spec h hN ((hget_old hpl).trans hp)) ?_) | (with_reducible refine cm2 (left_n ht htI htN hget_new (hv.app _) hV _ _ hrows g0) ?_) | (with_reducible refine cm2 (mturn_spec hL1 hLN hget_new) ?_)))
  all_goals rfl
theorem right_p {r c : Int} {p z q : Nat} {D : List Int} (h : MatOk r c D) (hI : InD D) {v : MV} {V : List Int} {N : Nat} (hN : D.length = N) {H : MH} {rw : Bool} (hp : hget H p = some ⟨D.map u64, rw⟩) (hv : Sl H v V) (hV : InD V) (tau m : Int) (hrows : rowsB V.length c m = true) {g0 : Int} (hq : hget H q = some ⟨[u8 g0], true⟩) :
    Spec Tryd.prog 91 [.agg [v, u64 tau], .ptr q 0, mx r c c p N z, i64 m] H fun u H' => u = .tup [mx r c c H.length N N, i64 0] ∧ H' = H.set q (some ⟨[u8 (rightR r c V tau m (D, g0)).2], true⟩) ++ [some ⟨(rightR r c V tau m (D, g0)).1.map u64, true⟩] := by
  have hpl := lt_of_hget hp
  have hql := lt_of_hget hq
  have hqp := mat_ne hp hq
  have ht := mturn_ok h
  have htI := mturn_in (r := r) (c := c) hI
  have htN : (mturnM r c D).length = N := by rw [ht.len, Int.mul_comm, ← h.len]; exact hN
  have hL := leftR_ok (V := V) (tau := tau) (m := m) (S := (mturnM r c D, g0)) ⟨ht, htI⟩
  have hLN : (leftR c r V tau m (mturnM r c D, g0)).1.length = N := by rw [hL.1.len, ← ht.len]; exact htN
  have hL1 : MatOk c r (leftR c r V tau m (mturnM r c D, g0)).1 := hL.1
  refine Spec.oneW (Hm := H.set q (some ⟨[u8 (rightR r c V tau m (D, g0)).2], true⟩)) (v := fun p => .tup [mx r c c p N N, i64 0]) (q := 6) (J := [some ⟨[v, u64 tau], true⟩, some ⟨[i64 r, i64 c, i64 c, .slice p 0 N z 1], true⟩, some ⟨[i64 r, i64 c, i64 c, .slice (H.length + 6) 0 N N 1], true⟩,
    some ⟨[i64 c, i64 r, i64 r, .slice (H.length + 5) 0 N N 1], true⟩, some ⟨(mturnM r c D).map u64, true⟩, some ⟨(leftR c r V tau m (mturnM r c D, g0)).1.map u64, true⟩, some ⟨(rightR r c V tau m (D, g0)).1.map u64, true⟩]) len_set (set_or (fun q o h => .inl h) (by simp [Cl])) (closed_u64 _) (fun p => by simp [Cl, Cls']) (fun π p _ => by simp [ren, rens]) rfl ?_
  refine enterS Tryd.func91 [.cell 8 56, .tmp 9] ?_
  repeat' first | (with_reducible (show W _ _ _ _ _); with_reducible refine go2 ?_) | (with_reducible (show W _ _ _ _ _); with_reducible refine sg2 ?_ ?_ <;> intro _) | (with_reducible (show W _ _ _ _ _); with_reducible refine sc2 ?_ ?_ <;> intro _) | (with_reducible (show CallK _ _ _ _ _ _ _ _ _ _ _); with_reducible refine ce2 (check_ok h hN _) ?_) | (with_reducible (show CallK _ _ _ _ _ _ _ _ _ _ _); with_reducible refine ce2 (rows_spec hv _ _ _ _) ?_) | (with_reducible (show W _ _ (.code (.region 3 _ true) :: _) _ _); with_reducible refine W_draw [(0, []), (1, []), (2, []), (4, []), (9, []), (3, [0, 9]), (5, [9]), (6, []), (7, []), (8, []), (10, []), (11, [])] [0, 9] (by kernel_rfl) ?_) | ((with_reducible (show CallK _ _ _ _ _ _ _ _ _ _ _); first | (with_reducible refine cm2 (mturn_spec h hN ((hget_old hpl).trans hp)) ?_) | (with_reducible refine cm2 (left_p ht htI htN hget_new (hv.app _) hV _ _ hrows ((hget_old hql).trans hq)) ?_) | (with_reducible refine cm2 (mturn_spec hL1 hLN (hget_newL len_set)) ?_)))
  all_goals rfl
end Go.Proofs.YtcikcinkjbbnhaaDoor.M

/- What the law HouseSteps reckons is what a reflection of the rows reckons. -/
set_option linter.unusedSimpArgs false
set_option linter.unusedVariables false
set_option maxRecDepth 10000
set_option maxHeartbeats 4000000
namespace Go.Proofs.YtcikcinkjbbnhaaDoor.M
open Go Go.Proofs

theorem place_inj {C i k i' k' : Nat} (hk : k < C) (hk' : k' < C) (h : i * C + k = i' * C + k') : i = i' ∧ k = k' := by
  have h1 : (i * C + k) / C = i := by rw [Nat.mul_comm, Nat.mul_add_div (by omega), Nat.div_eq_of_lt hk]; omega
  have h2 : (i' * C + k') / C = i' := by rw [Nat.mul_comm, Nat.mul_add_div (by omega), Nat.div_eq_of_lt hk']; omega
  have e : i = i' := by rw [← h1, ← h2, h]
  subst e
  exact ⟨rfl, by omega⟩
theorem at_set_ne {r c : Int} {D : List Int} (h : MatOk r c D) {i k i' k' : Nat} (hi : (i : Int) < r) (hk : (k : Int) < c) (hi' : (i' : Int) < r) (hk' : (k' : Int) < c) (hne : i ≠ i' ∨ k ≠ k') (b : Int) :
    atM r c c (setM r c c D i k b) i' k' = atM r c c D i' k' := by
  rw [atM_in' (h.set _ _ _) hi' hk', atM_in' h hi' hk', setM_in' h hi hk]
  have : i * c.toNat + k ≠ i' * c.toNat + k' := fun he => by
    have := place_inj (by omega) (by omega) he
    omega
  rw [List.getD_eq_getElem?_getD, List.getD_eq_getElem?_getD, List.getElem?_set_ne this]
theorem iter_congr {α : Type} {f g : Nat → α → α} {a : α} {n : Nat} (I : Nat → α → Prop) (h0 : I 0 a) (hs : ∀ k, k < n → I k (iter f k a) → f k (iter f k a) = g k (iter f k a) ∧ I (k + 1) (f k (iter f k a))) : iter f n a = iter g n a ∧ I n (iter f n a) := by
  have key : ∀ k, k ≤ n → iter f k a = iter g k a ∧ I k (iter f k a) := by
    intro k
    induction k with
    | zero => intro _; exact ⟨rfl, h0⟩
    | succ k ih =>
      intro hk
      obtain ⟨e, hI⟩ := ih (by omega)
      obtain ⟨e2, hI2⟩ := hs k (by omega) hI
      exact ⟨by simp only [iter]; rw [e2, e], hI2⟩
  exact key n (Nat.le_refl n)

/-- The law's way: what is read is the matrix as it was. -/
def putW (r c : Int) (V : List Int) (m : Int) (D : List Int) (k : Nat) (t : Int) (S : List Int × Int) (n : Nat) : List Int × Int :=
  iter (fun i S => (setM r c c S.1 (m + i) k (addM (atM r c c D (m + i) k) (flipM (mulM (V.getD i 0) t).1)).1, bits .or .u8 (bits .or .u8 S.2 (mulM (V.getD i 0) t).2) (addM (atM r c c D (m + i) k) (flipM (mulM (V.getD i 0) t).1)).2)) n S
theorem putW_succ (r c : Int) (V : List Int) (m : Int) (D : List Int) (k : Nat) (t : Int) (S : List Int × Int) (n : Nat) : putW r c V m D k t S (n + 1) = (setM r c c (putW r c V m D k t S n).1 (m + n) k (addM (atM r c c D (m + n) k) (flipM (mulM (V.getD n 0) t).1)).1,
  bits .or .u8 (bits .or .u8 (putW r c V m D k t S n).2 (mulM (V.getD n 0) t).2) (addM (atM r c c D (m + n) k) (flipM (mulM (V.getD n 0) t).1)).2) := rfl
def colW (r c : Int) (V : List Int) (tau m : Int) (D : List Int) (k : Nat) (S : List Int × Int) : List Int × Int :=
  putW r c V m D k (mulM tau (sumS V (fun i => atM r c c D (m + i) k) S.2 V.length).1).1
    (S.1, bits .or .u8 (sumS V (fun i => atM r c c D (m + i) k) S.2 V.length).2 (mulM tau (sumS V (fun i => atM r c c D (m + i) k) S.2 V.length).1).2) V.length
def wantL (r c : Int) (V : List Int) (tau m : Int) (D : List Int) (n : Nat) (S : List Int × Int) : List Int × Int := iter (colW r c V tau m D) n S

theorem sumS_succ (V : List Int) (x : Nat → Int) (g : Int) (n : Nat) : sumS V x g (n + 1) = ((addM (sumS V x g n).1 (mulM (V.getD n 0) (x n)).1).1, bits .or .u8 (bits .or .u8 (sumS V x g n).2 (mulM (V.getD n 0) (x n)).2) (addM (sumS V x g n).1 (mulM (V.getD n 0) (x n)).1).2) := rfl
theorem sumS_zero (V : List Int) (x : Nat → Int) (g : Int) : sumS V x g 0 = (0, g) := rfl
theorem sumS_congr {V : List Int} {x y : Nat → Int} (g : Int) : ∀ n, (∀ i, i < n → x i = y i) → sumS V x g n = sumS V y g n
  | 0, _ => by rw [sumS_zero, sumS_zero]
  | n + 1, h => by
    have ih := sumS_congr (V := V) (x := x) (y := y) g n (fun i hi => h i (by omega))
    rw [sumS_succ, sumS_succ, ih, h n (by omega)]

theorem put_eq {r c : Int} {V : List Int} {m : Int} {D : List Int} {k : Nat} {t : Int} {S : List Int × Int} (hm : 0 ≤ m ∧ (V.length : Int) ≤ r ∧ m ≤ r - V.length) (hk : (k : Int) < c) (hS : MatOk r c S.1)
    (hcol : ∀ i : Nat, (i : Int) < r → atM r c c S.1 i k = atM r c c D i k) :
    putS r c V m k t S V.length = putW r c V m D k t S V.length ∧ ∀ i k' : Nat, (i : Int) < r → (k' : Int) < c → k' ≠ k → atM r c c (putS r c V m k t S V.length).1 i k' = atM r c c S.1 i k' := by
  obtain ⟨mn, rfl⟩ : ∃ a : Nat, m = a := ⟨m.toNat, by omega⟩
  have key := iter_congr (f := fun i S => (setM r c c S.1 ((mn : Int) + (i : Nat)) k (addM (atM r c c S.1 ((mn : Int) + (i : Nat)) k) (flipM (mulM (V.getD i 0) t).1)).1, bits .or .u8 (bits .or .u8 S.2 (mulM (V.getD i 0) t).2) (addM (atM r c c S.1 ((mn : Int) + (i : Nat)) k) (flipM (mulM (V.getD i 0) t).1)).2))
    (g := fun i S => (setM r c c S.1 ((mn : Int) + (i : Nat)) k (addM (atM r c c D ((mn : Int) + (i : Nat)) k) (flipM (mulM (V.getD i 0) t).1)).1, bits .or .u8 (bits .or .u8 S.2 (mulM (V.getD i 0) t).2) (addM (atM r c c D ((mn : Int) + (i : Nat)) k) (flipM (mulM (V.getD i 0) t).1)).2)) (a := S) (n := V.length)
    (fun i T => MatOk r c T.1 ∧ (∀ i' : Nat, mn + i ≤ i' → (i' : Int) < r → atM r c c T.1 i' k = atM r c c D i' k) ∧ ∀ i' k' : Nat, (i' : Int) < r → (k' : Int) < c → k' ≠ k → atM r c c T.1 i' k' = atM r c c S.1 i' k')
    ⟨hS, fun i' _ hi' => hcol i' hi', fun _ _ _ _ _ => rfl⟩ ?_
  · exact ⟨key.1, key.2.2.2⟩
  intro i hi ⟨ok, h1, h2⟩
  generalize iter (fun (i : Nat) (S : List Int × Int) => (setM r c c S.1 ((mn : Int) + (i : Nat)) k (addM (atM r c c S.1 ((mn : Int) + (i : Nat)) k) (flipM (mulM (V.getD i 0) t).1)).1, bits .or .u8 (bits .or .u8 S.2 (mulM (V.getD i 0) t).2) (addM (atM r c c S.1 ((mn : Int) + (i : Nat)) k) (flipM (mulM (V.getD i 0) t).1)).2)) i S = T at ok h1 h2 ⊢
  have e : ((mn : Int) + (i : Nat)) = ((mn + i : Nat) : Int) := by omega
  have hir : ((mn + i : Nat) : Int) < r := by omega
  have hx := h1 (mn + i) (Nat.le_refl _) hir
  dsimp only
  rw [e, hx]
  refine ⟨rfl, ok.set _ _ _, fun i' hi' hr' => ?_, fun i' k' hr' hk' hne => ?_⟩
  · rw [at_set_ne ok hir hk hr' hk (.inl (by omega))]
    exact h1 i' (by omega) hr'
  · rw [at_set_ne ok hir hk hr' hk' (.inr (fun h => hne h.symm))]
    exact h2 i' k' hr' hk' hne
theorem left_want {r c : Int} {V : List Int} {tau m : Int} {D : List Int} {g : Int} (hm : 0 ≤ m ∧ (V.length : Int) ≤ r ∧ m ≤ r - V.length) (h : MatOk r c D) : leftS r c V tau m c.toNat (D, g) = wantL r c V tau m D c.toNat (D, g) := by
  have key := iter_congr (f := colS r c V tau m) (g := colW r c V tau m D) (a := (D, g)) (n := c.toNat)
    (fun k S => MatOk r c S.1 ∧ ∀ i k' : Nat, (i : Int) < r → k ≤ k' → (k' : Int) < c → atM r c c S.1 i k' = atM r c c D i k') ⟨h, fun _ _ _ _ _ => rfl⟩ ?_
  · exact key.1
  intro k hk ⟨ok, hat⟩
  generalize iter (colS r c V tau m) k (D, g) = S at ok hat ⊢
  have hkc : (k : Int) < c := by omega
  have hsum : sumS V (fun i => atM r c c S.1 (m + i) k) S.2 V.length = sumS V (fun i => atM r c c D (m + i) k) S.2 V.length := by
    refine sumS_congr S.2 V.length fun i hi => ?_
    have e : m + (i : Int) = ((m.toNat + i : Nat) : Int) := by omega
    rw [e]
    exact hat _ k (by omega) (Nat.le_refl k) hkc
  have hp := fun t g' => put_eq (V := V) (m := m) (D := D) (k := k) (t := t) (S := (S.1, g')) hm hkc ok (fun i hi => hat i k hi (Nat.le_refl k) hkc)
  refine ⟨?_, ?_, fun i k' hi hk' hkc' => ?_⟩
  · unfold colS colW
    rw [hsum]
    exact (hp _ _).1
  · unfold colS
    have hpo : ∀ t g' n, MatOk r c (putS r c V m k t (S.1, g') n).1 := by
      intro t g' n
      induction n with
      | zero => exact ok
      | succ n ih => exact ih.set _ _ _
    exact hpo _ _ _
  · unfold colS
    rw [(hp _ _).2 i k' hi hkc' (by omega)]
    exact hat i k' hi (by omega) hkc'

theorem gen_congr {r c : Int} (hr : 0 ≤ r) (hc : 0 ≤ c) {f g : Nat → Nat → Int} (h : ∀ i k : Nat, (i : Int) < r → (k : Int) < c → f i k = g i k) : genM r c f = genM r c g := by
  unfold genM
  refine List.map_congr_left fun t ht => ?_
  have ht := List.mem_range.1 ht
  rw [Int.toNat_mul hr hc] at ht
  have hc0 : 0 < c.toNat := by
    rcases Nat.eq_zero_or_pos c.toNat with h0 | h0
    · rw [h0] at ht; omega
    · exact h0
  have h1 : t / c.toNat < r.toNat := by rw [Nat.div_lt_iff_lt_mul hc0]; exact ht
  have h2 : t % c.toNat < c.toNat := Nat.mod_lt _ hc0
  refine h _ _ ?_ ?_
  · have := Int.ofNat_lt.2 h1; rw [Int.toNat_of_nonneg hr] at this; exact this
  · have := Int.ofNat_lt.2 h2; rw [Int.toNat_of_nonneg hc] at this; exact this
theorem mturn2 {r c : Int} {D : List Int} (h : MatOk r c D) : mturnM c r (mturnM r c D) = D := by
  have e : mturnM c r (mturnM r c D) = genM r c (fun i k => atM r c c D i k) := by
    refine gen_congr h.r0 h.c0 fun i k hi hk => ?_
    have ht := mturn_ok h
    rw [atM_in' ht hk hi]
    exact genM_getD h.c0 h.r0 (fun i k => atM r c c D k i) hk hi
  rw [e, gen_at h]
theorem and_2047 {a : Int} (h : 0 ≤ a) (h' : a < 18446744073709551616) : bits .and .u64 a 2047 = a % 2048 := by go_bits2
theorem and_52 {a : Int} (h : 0 ≤ a) (h' : a < 18446744073709551616) : bits .and .u64 a 4503599627370495 = a % 4503599627370496 := by go_bits2
theorem andNot_63 {a : Int} (h : 0 ≤ a) (h' : a < 18446744073709551616) : bits .andNot .u64 a 9223372036854775808 = a % 9223372036854775808 := by
  rw [Go.u64_andNot a 9223372036854775808 h h' (by decide) (by decide)]
  have e2 : 18446744073709551615 - (9223372036854775808 : Int).toNat = 2 ^ 63 - 1 := by decide
  rw [e2, Nat.and_two_pow_sub_one_eq_mod]
  omega
theorem expM_eq {b : Int} (h : InU b) : expM b = b / 4503599627370496 % 2048 := by
  have hs : shrV .u64 b 52 = b / 4503599627370496 := by
    unfold shrV
    have : min (52 : Int).toNat IntKind.u64.bits = 52 := by decide
    rw [this, Int.fdiv_eq_ediv_of_nonneg _ (by decide)]
    rfl
  have h1 := h.1
  have h2 := h.2
  unfold expM
  rw [hs, and_2047 (by omega) (by omega), wrap_i64 (by omega)]
theorem fracM_eq {b : Int} (h : InU b) : fracM b = b % 4503599627370496 := and_52 h.1 h.2
theorem absM_eq {b : Int} (h : InU b) : absM b = b % 9223372036854775808 := andNot_63 h.1 h.2
theorem kind_zero {b : Int} (h : InU b) : kindM b = 1 ↔ absM b = 0 := by
  rw [absM_eq h]
  unfold kindM
  rw [expM_eq h, fracM_eq h]
  have h1 := h.1
  have h2 := h.2
  constructor
  · intro hk
    split at hk
    · split at hk
      · omega
      · omega
    · split at hk
      · omega
      · split at hk <;> omega
  · intro hz
    rw [if_pos (by omega), if_pos (by omega)]
end Go.Proofs.YtcikcinkjbbnhaaDoor.M
