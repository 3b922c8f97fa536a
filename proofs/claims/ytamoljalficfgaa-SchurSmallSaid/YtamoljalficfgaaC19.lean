/- Matrices filled row by row: copies, and rows for columns; which are matrices. -/
import Derived.Test.YtamoljalficfgaaD1
set_option linter.unusedSimpArgs false
set_option linter.unusedVariables false
set_option maxRecDepth 10000
set_option maxHeartbeats 4000000
namespace Go.Proofs.Ytamoljalficfgaa.M
open Go Go.Proofs

theorem check_ok {r c : Int} {D : List Int} (h : MatOk r c D) {p n z : Nat} (hn : D.length = n) (H : MH) : Spec Try.prog 30 [mx r c c p n z] H fun v H' => v = i64 0 ∧ H' = H := by
  obtain ⟨r0, r1, c0, c1, hl⟩ := h
  have e1 : ¬ r < 0 := by omega
  have e2 : ¬ 4096 < r := by omega
  have e3 : ¬ c < 0 := by omega
  have e4 : ¬ 4096 < c := by omega
  have e5 : ¬ c < c := by omega
  have e6 : ¬ 1099511627776 < c := by omega
  refine Spec.scalar (enterS Try.func30 [.tmp 2] ?_)
  repeat' first | (with_reducible (show W _ _ _ _ _); with_reducible refine go2 ?_) | (with_reducible (show W _ _ _ _ _); with_reducible refine sg2 ?_ ?_ <;> intro _) | (with_reducible (show W _ _ _ _ _); with_reducible refine sc2 ?_ ?_ <;> intro _)
  all_goals try trivial
  rename_i hlt
  exfalso
  have a1 : 0 ≤ (r - 1) * c := Int.mul_nonneg (by omega) c0
  have a2 : (r - 1) * c ≤ 4096 * 4096 := Int.mul_le_mul (by omega) c1 c0 (by omega)
  have a3 : (r - 1) * c + c = r * c := by rw [Int.sub_mul]; omega
  have a4 : IntKind.i64.wrap (r - 1) = r - 1 := wrap_i64 (by omega)
  rw [a4, wrap_i64 (n := (r - 1) * c) (by omega), wrap_i64 (by omega), a3] at hlt
  omega

/-- A matrix whose numbers are told by their places. -/
def genM (r c : Int) (f : Nat → Nat → Int) : List Int := (List.range (r * c).toNat).map fun t => f (t / c.toNat) (t % c.toNat)
def filled (G : List Int) (t : Nat) : List Int := G.take t ++ List.replicate (G.length - t) 0
theorem filled_zero (G : List Int) : filled G 0 = List.replicate G.length 0 := by simp [filled]
theorem filled_all {G : List Int} {t : Nat} (h : G.length ≤ t) : filled G t = G := by
  unfold filled
  rw [List.take_of_length_le h]
  have : G.length - t = 0 := by omega
  simp [this]
theorem filled_len (G : List Int) {t : Nat} (h : t ≤ G.length) : (filled G t).length = G.length := by
  unfold filled; simp; omega
theorem filled_set {G : List Int} {t : Nat} (h : t < G.length) : (filled G t).set t (G.getD t 0) = filled G (t + 1) := by
  unfold filled
  apply List.ext_getElem?
  intro i
  rw [List.getElem?_set]
  split
  · rename_i he
    subst he
    have : t < (G.take t ++ List.replicate (G.length - t) 0).length := by simp; omega
    rw [if_pos this, List.getElem?_append_left (by simp; omega)]
    simp [List.getD_eq_getElem?_getD, h]
  · rename_i hne
    rcases Nat.lt_or_ge i t with hlt | hge
    · rw [List.getElem?_append_left (by simp; omega), List.getElem?_append_left (by simp; omega)]
      simp [List.getElem?_take, hlt]
      omega
    · rw [List.getElem?_append_right (by simp; omega), List.getElem?_append_right (by simp; omega)]
      simp only [List.length_take, List.getElem?_replicate]
      congr 1
      · apply propext; omega
theorem genM_len (r c : Int) (f : Nat → Nat → Int) : (genM r c f).length = (r * c).toNat := by simp [genM]
theorem gen_ok {r c : Int} (hr : 0 ≤ r ∧ r ≤ 4096) (hc : 0 ≤ c ∧ c ≤ 4096) (f : Nat → Nat → Int) : MatOk r c (genM r c f) := ⟨hr.1, hr.2, hc.1, hc.2, genM_len r c f⟩
theorem place_lt {r c : Int} (hr : 0 ≤ r) (hc : 0 ≤ c) {i k : Nat} (hi : (i : Int) < r) (hk : (k : Int) < c) : i * c.toNat + k < (r * c).toNat := by
  have h1 : (i + 1) * c.toNat ≤ r.toNat * c.toNat := Nat.mul_le_mul_right _ (by omega)
  have h2 : (r * c).toNat = r.toNat * c.toNat := by
    rw [Int.toNat_mul hr hc]
  rw [h2, Nat.add_mul] at *
  omega
theorem ixM_eq {r c : Int} (hr : 0 ≤ r ∧ r ≤ 4096) (hc : 0 ≤ c ∧ c ≤ 4096) {i k : Nat} (hi : (i : Int) < r) (hk : (k : Int) < c) : ixM c i k = ((i * c.toNat + k : Nat) : Int) := by
  have a1 : 0 ≤ (i : Int) * c := Int.mul_nonneg (by omega) hc.1
  have a2 : (i : Int) * c ≤ 4096 * 4096 := Int.mul_le_mul (by omega) hc.2 hc.1 (by omega)
  unfold ixM
  rw [wrap_i64 (n := (i : Int) * c) (by omega), wrap_i64 (by omega)]
  have : ((c.toNat : Nat) : Int) = c := by omega
  rw [Int.natCast_add, Int.natCast_mul, this]
theorem inM_true {r c : Int} {D : List Int} (h : MatOk r c D) {i k : Nat} (hi : (i : Int) < r) (hk : (k : Int) < c) : inM r c c D.length i k = true := by
  have e := ixM_eq ⟨h.r0, h.r1⟩ ⟨h.c0, h.c1⟩ hi hk
  unfold ixM at e
  have hl := place_lt h.r0 h.c0 hi hk
  rw [← h.len] at hl
  have hc := h.c0
  simp only [inM, Bool.and_eq_true, decide_eq_true_eq, e]
  exact ⟨⟨⟨⟨⟨by omega, hi⟩, by omega⟩, hk⟩, hc⟩, by omega⟩
theorem atM_in' {r c : Int} {D : List Int} (h : MatOk r c D) {i k : Nat} (hi : (i : Int) < r) (hk : (k : Int) < c) : atM r c c D i k = D.getD (i * c.toNat + k) 0 := by
  unfold atM
  rw [if_pos (inM_true h hi hk), ixM_eq ⟨h.r0, h.r1⟩ ⟨h.c0, h.c1⟩ hi hk]
  rfl
theorem setM_in' {r c : Int} {D : List Int} (h : MatOk r c D) {i k : Nat} (hi : (i : Int) < r) (hk : (k : Int) < c) (b : Int) : setM r c c D i k b = D.set (i * c.toNat + k) b := by
  unfold setM
  rw [if_pos (inM_true h hi hk), ixM_eq ⟨h.r0, h.r1⟩ ⟨h.c0, h.c1⟩ hi hk]
  rfl
theorem genM_getD {r c : Int} (hr : 0 ≤ r) (hc : 0 ≤ c) (f : Nat → Nat → Int) {i k : Nat} (hi : (i : Int) < r) (hk : (k : Int) < c) : (genM r c f).getD (i * c.toNat + k) 0 = f i k := by
  have hl := place_lt hr hc hi hk
  have hpos : 0 < c.toNat := by omega
  have hk' : k < c.toNat := by omega
  unfold genM
  rw [List.getD_eq_getElem?_getD, List.getElem?_map, List.getElem?_range hl]
  simp only [Option.map_some, Option.getD_some]
  congr 1
  · rw [Nat.mul_comm, Nat.mul_add_div hpos, Nat.div_eq_of_lt hk']; omega
  · rw [Nat.mul_comm, Nat.mul_add_mod, Nat.mod_eq_of_lt hk']
/-- A copy is the same. -/
theorem gen_at {r c : Int} {D : List Int} (h : MatOk r c D) : genM r c (fun i k => atM r c c D i k) = D := by
  apply List.ext_getElem?
  intro t
  rcases Nat.lt_or_ge t D.length with hlt | hge
  · have hl := h.len
    have hlt' : t < (r * c).toNat := by omega
    have hc : 0 < c.toNat := by
      rcases Nat.eq_zero_or_pos c.toNat with h0 | h0
      · have : c = 0 := by have := h.c0; omega
        subst this; simp at hlt'
      · exact h0
    have hrc : (r * c).toNat = r.toNat * c.toNat := Int.toNat_mul h.r0 h.c0
    have hi : t / c.toNat < r.toNat := by rw [Nat.div_lt_iff_lt_mul hc]; omega
    have hk : t % c.toNat < c.toNat := Nat.mod_lt _ hc
    have e : t / c.toNat * c.toNat + t % c.toNat = t := Nat.div_add_mod' t c.toNat
    have hi' : ((t / c.toNat : Nat) : Int) < r := by have := Int.ofNat_lt.2 hi; rw [Int.toNat_of_nonneg h.r0] at this; exact this
    have hk' : ((t % c.toNat : Nat) : Int) < c := by have := Int.ofNat_lt.2 hk; rw [Int.toNat_of_nonneg h.c0] at this; exact this
    unfold genM
    rw [List.getElem?_map, List.getElem?_range hlt', Option.map_some]
    show some (atM r c c D ((t / c.toNat : Nat) : Int) ((t % c.toNat : Nat) : Int)) = _
    rw [atM_in' h hi' hk', e]
    simp [List.getD_eq_getElem?_getD, hlt]
  · rw [List.getElem?_eq_none hge, List.getElem?_eq_none (by rw [genM_len, ← h.len]; exact hge)]

theorem fill_step {r c : Int} (hr : 0 ≤ r ∧ r ≤ 4096) (hc : 0 ≤ c ∧ c ≤ 4096) (f : Nat → Nat → Int) {i k : Nat} (hi : (i : Int) < r) (hk : (k : Int) < c) :
    setM r c c (filled (genM r c f) (i * c.toNat + k)) i k (f i k) = filled (genM r c f) (i * c.toNat + (k + 1)) := by
  have hl := place_lt hr.1 hc.1 hi hk
  have ok : MatOk r c (filled (genM r c f) (i * c.toNat + k)) := ⟨hr.1, hr.2, hc.1, hc.2, by rw [filled_len _ (by rw [genM_len]; omega), genM_len]⟩
  rw [setM_in' ok hi hk, ← genM_getD hr.1 hc.1 f hi hk, filled_set (by rw [genM_len]; exact hl)]
  rfl
theorem fill_ok {r c : Int} (hr : 0 ≤ r ∧ r ≤ 4096) (hc : 0 ≤ c ∧ c ≤ 4096) (f : Nat → Nat → Int) {t : Nat} (ht : t ≤ (r * c).toNat) : MatOk r c (filled (genM r c f) t) :=
  ⟨hr.1, hr.2, hc.1, hc.2, by rw [filled_len _ (by rw [genM_len]; exact ht), genM_len]⟩
theorem row_le {r c : Int} (hr : 0 ≤ r) (hc : 0 ≤ c) {i : Nat} (hi : (i : Int) ≤ r) : i * c.toNat ≤ (r * c).toNat := by
  rw [Int.toNat_mul hr hc]
  exact Nat.mul_le_mul_right _ (by omega)

/-- A copy of a matrix. -/
theorem clone_spec {r c : Int} {p z : Nat} {D : List Int} (h : MatOk r c D) {N : Nat} (hN : D.length = N) {H : MH} {rw : Bool} (hp : hget H p = some ⟨D.map u64, rw⟩) :
    Spec Try.prog 45 [mx r c c p N z] H fun v H' => v = mx r c c H.length N N ∧ H' = H ++ [some ⟨D.map u64, true⟩] := by
  have hr : 0 ≤ r ∧ r ≤ 4096 := ⟨h.r0, h.r1⟩
  have hc : 0 ≤ c ∧ c ≤ 4096 := ⟨h.c0, h.c1⟩
  have hpl := lt_of_hget hp
  have hNN : (r * c).toNat = N := h.len.symm.trans hN
  refine Spec.one (q := 2) (J := [some ⟨[i64 r, i64 c, i64 c, .slice p 0 N z 1], true⟩, some ⟨[i64 r, i64 c, i64 c, .slice (H.length + 2) 0 N N 1], true⟩, some ⟨D.map u64, true⟩, some ⟨[i64 r, i64 c, i64 c, .slice (H.length + 2) 0 N N 1], true⟩])
    (v := fun p => mx r c c p N N) (closed_u64 _) (fun p => by simp [Cl, Cls']) (fun π p _ => by simp [ren, rens]) rfl ?_
  refine enterS Try.func45 [.cell 2 26] ?_
  repeat' first | (with_reducible (show W _ _ _ _ _); with_reducible refine go2 ?_) | (with_reducible (show W _ _ _ _ _); with_reducible refine sg2 ?_ ?_ <;> intro _) | (with_reducible (show W _ _ _ _ _); with_reducible refine sc2 ?_ ?_ <;> intro _) | (with_reducible (show W _ _ (.code (.region 8 _ true) :: _) _ _); with_reducible refine W_draw [(0, []), (1, []), (2, []), (3, []), (4, []), (5, []), (6, [0]), (7, [])] [0] (by kernel_rfl) ?_) | ((with_reducible (show CallK _ _ _ _ _ _ _ _ _ _ _); with_reducible refine cm2 (new_spec r c hr hc _) ?_))
  refine W_for (fun j ρ H' => ∃ i : Nat, i + j = r.toNat ∧ ρ 1 = .ptr H.length 0 ∧ ρ 2 = .ptr (H.length + 1) 0 ∧ ρ 3 = .ptr (H.length + 3) 0 ∧ ρ 12 = i64 r ∧ ρ 13 = i64 i ∧
    H' = H ++ [some ⟨[i64 r, i64 c, i64 c, .slice p 0 N z 1], true⟩, some ⟨[i64 0, i64 0, i64 0, .lit (.slice none 0 0)], true⟩, some ⟨(filled (genM r c fun i k => atM r c c D i k) (i * c.toNat)).map u64, true⟩, some ⟨[i64 r, i64 c, i64 c, .slice (H.length + 2) 0 N N 1], true⟩]) r.toNat ?_ ?_
  · refine ⟨0, by omega, ?_⟩
    simp [put, args0, filled_zero, genM_len, hNN]
  rintro j ρ H' ⟨i, hi, h1, h2, h3, h12, h13, rfl⟩
  repeat' first | (with_reducible (show W _ _ _ _ _); with_reducible refine go2 ?_) | (with_reducible (show W _ _ _ _ _); with_reducible refine sg2 ?_ ?_ <;> intro _) | (with_reducible (show W _ _ _ _ _); with_reducible refine sc2 ?_ ?_ <;> intro _) | (with_reducible (show W _ _ (.code (.region 8 _ true) :: _) _ _); with_reducible refine W_draw [(0, []), (1, []), (2, []), (3, []), (4, []), (5, []), (6, [0]), (7, [])] [0] (by kernel_rfl) ?_)
  · rename_i hlt
    refine W_for (fun j' ρ H' => ∃ k : Nat, k + j' = c.toNat ∧ ρ 1 = .ptr H.length 0 ∧ ρ 2 = .ptr (H.length + 1) 0 ∧ ρ 3 = .ptr (H.length + 3) 0 ∧ ρ 4 = i64 i ∧ ρ 12 = i64 r ∧ ρ 13 = i64 i ∧ ρ 17 = i64 c ∧ ρ 18 = i64 k ∧
      H' = H ++ [some ⟨[i64 r, i64 c, i64 c, .slice p 0 N z 1], true⟩, some ⟨[i64 0, i64 0, i64 0, .lit (.slice none 0 0)], true⟩, some ⟨(filled (genM r c fun i k => atM r c c D i k) (i * c.toNat + k)).map u64, true⟩, some ⟨[i64 r, i64 c, i64 c, .slice (H.length + 2) 0 N N 1], true⟩]) c.toNat ?_ ?_
    · refine ⟨0, by omega, ?_⟩
      simp [put, *]
    clear h1 h2 h3 h12 h13
    rintro j' ρ' H' ⟨k, hk, h1, h2, h3, h4, h12, h13, h17, h18, rfl⟩
    have hrow := row_le hr.1 hc.1 (i := i + 1) (by omega)
    have hfo := fill_ok hr hc (fun i k => atM r c c D i k) (t := i * c.toNat + k) (by rw [Nat.add_mul] at hrow; omega)
    have hfl := hfo.len.trans hNN
    repeat' first | (with_reducible (show W _ _ _ _ _); with_reducible refine go2 ?_) | (with_reducible (show W _ _ _ _ _); with_reducible refine sg2 ?_ ?_ <;> intro _) | (with_reducible (show W _ _ _ _ _); with_reducible refine sc2 ?_ ?_ <;> intro _) | (with_reducible (show CallK _ _ _ _ _ _ _ _ _ _ _); with_reducible refine ce2 (at_ok h _ _ ((hget_old hpl).trans hp) hN) ?_) | (with_reducible (show W _ _ (.code (.region 8 _ true) :: _) _ _); with_reducible refine W_draw [(0, []), (1, []), (2, []), (3, []), (4, []), (5, []), (6, [0]), (7, [])] [0] (by kernel_rfl) ?_) | ((with_reducible (show CallK _ _ _ _ _ _ _ _ _ _ _); with_reducible refine cm2 (set_ok hfo _ _ _ hget_new hfl) ?_))
    · rename_i hk2
      refine ⟨j' - 1, by omega, k + 1, by omega, by rw [wrap_suc (by assumption) (by omega)], ?_⟩
      rw [fill_step hr hc (fun i k => atM r c c D i k) hlt hk2]
    · have : k = c.toNat := by omega
      subst this
      refine ⟨j - 1, by omega, i + 1, by omega, by rw [wrap_suc (by assumption) (by omega)], ?_⟩
      rw [Nat.add_mul, Nat.one_mul]
  · have : i = r.toNat := by omega
    subst this
    rw [filled_all (by rw [genM_len, Int.toNat_mul hr.1 hc.1]; exact Nat.le_refl _), gen_at h]
end Go.Proofs.Ytamoljalficfgaa.M
