/- Matrices: all finite; times a power of two; divided by their greatest number's. -/
import Derived.Test.YtamoljalficfgaaC23
set_option linter.unusedSimpArgs false
set_option linter.unusedVariables false
set_option maxRecDepth 10000
set_option maxHeartbeats 4000000
namespace Go.Proofs.Ytamoljalficfgaa.M
open Go Go.Proofs

/-- What the walk is not to take for a rewrite rule. -/
def Hid2 (p : Prop) : Prop := p
/-- All numbers of a matrix, seen one behind the other. -/
theorem all_places {r c : Int} {D : List Int} (h : MatOk r c D) {p : Int → Prop} (hp : ∀ i k : Nat, (i : Int) < r → (k : Int) < c → p (atM r c c D i k)) : ∀ x ∈ D, p x := by
  intro x hx
  rw [← gen_at h] at hx
  simp only [genM, List.mem_map, List.mem_range] at hx
  obtain ⟨t, ht, rfl⟩ := hx
  rw [Int.toNat_mul h.r0 h.c0] at ht
  have hc0 : 0 < c.toNat := by
    rcases Nat.eq_zero_or_pos c.toNat with h0 | h0
    · rw [h0] at ht; omega
    · exact h0
  have h1 : t / c.toNat < r.toNat := by rw [Nat.div_lt_iff_lt_mul hc0]; exact ht
  have h2 : t % c.toNat < c.toNat := Nat.mod_lt _ hc0
  refine hp _ _ ?_ ?_
  · have := Int.ofNat_lt.2 h1; rw [Int.toNat_of_nonneg h.r0] at this; exact this
  · have := Int.ofNat_lt.2 h2; rw [Int.toNat_of_nonneg h.c0] at this; exact this
theorem at_mem {r c : Int} {D : List Int} (h : MatOk r c D) {i k : Nat} (hi : (i : Int) < r) (hk : (k : Int) < c) : atM r c c D i k ∈ D := by
  rw [atM_in' h hi hk]
  have := place_lt h.r0 h.c0 hi hk
  rw [← h.len] at this
  rw [List.getD_eq_getElem?_getD, List.getElem?_eq_getElem this]
  exact List.getElem_mem this

def finD (D : List Int) : Bool := D.all finiteM
theorem finite_mspec {r c : Int} {p z : Nat} {D : List Int} (h : MatOk r c D) {N : Nat} (hN : D.length = N) {H : MH} {rw : Bool} (hp : hget H p = some ⟨D.map u64, rw⟩) :
    Spec Try.prog 22 [mx r c c p N z] H fun v H' => v = bl (finD D) ∧ H' = H := by
  have hpl := lt_of_hget hp
  have hr := h.r1
  have hc := h.c1
  refine Spec.scalar (enterS Try.func22 [.tmp 2] ?_)
  repeat' first | (with_reducible (show W _ _ _ _ _); with_reducible refine go2 ?_) | (with_reducible (show W _ _ _ _ _); with_reducible refine sg2 ?_ ?_ <;> intro _) | (with_reducible (show W _ _ _ _ _); with_reducible refine sc2 ?_ ?_ <;> intro _)
  refine W_for (fun j ρ H' => ∃ i : Nat, i + j = r.toNat ∧ (∀ i' k : Nat, i' < i → (k : Int) < c → finiteM (atM r c c D i' k) = true) ∧ ρ 1 = .ptr H.length 0 ∧ ρ 6 = i64 r ∧ ρ 7 = i64 i ∧ H' = H ++ [some ⟨[i64 r, i64 c, i64 c, .slice p 0 N z 1], true⟩]) r.toNat ?_ ?_
  · refine ⟨0, by omega, fun i' k hi => by omega, ?_⟩
    simp [put, args0]
  rintro j ρ H' ⟨i, hi, hall, h1, h6, h7, rfl⟩
  replace hall : Hid2 (∀ i' k : Nat, i' < i → (k : Int) < c → finiteM (atM r c c D i' k) = true) := hall
  repeat' first | (with_reducible (show W _ _ _ _ _); with_reducible refine go2 ?_) | (with_reducible (show W _ _ _ _ _); with_reducible refine sg2 ?_ ?_ <;> intro _) | (with_reducible (show W _ _ _ _ _); with_reducible refine sc2 ?_ ?_ <;> intro _)
  · rename_i hlt
    refine W_for (fun j' ρ H' => ∃ k : Nat, k + j' = c.toNat ∧ Hid2 (∀ k' : Nat, k' < k → finiteM (atM r c c D i k') = true) ∧ ρ 1 = .ptr H.length 0 ∧ ρ 3 = i64 i ∧ ρ 6 = i64 r ∧ ρ 7 = i64 i ∧ ρ 11 = i64 c ∧ ρ 12 = i64 k ∧ H' = H ++ [some ⟨[i64 r, i64 c, i64 c, .slice p 0 N z 1], true⟩]) c.toNat ?_ ?_
    · refine ⟨0, by omega, fun k' hk => by omega, ?_⟩
      simp [put, *]
    clear h1 h6 h7
    rintro j' ρ' H' ⟨k, hk, hrow, h1, h3, h6, h7, h11, h12, rfl⟩
    repeat' first | (with_reducible (show W _ _ _ _ _); with_reducible refine go2 ?_) | (with_reducible (show W _ _ _ _ _); with_reducible refine sg2 ?_ ?_ <;> intro _) | (with_reducible (show W _ _ _ _ _); with_reducible refine sc2 ?_ ?_ <;> intro _) | (with_reducible (show CallK _ _ _ _ _ _ _ _ _ _ _); with_reducible refine ce2 (at_ok h _ _ ((hget_old hpl).trans hp) hN) ?_) | (with_reducible (show CallK _ _ _ _ _ _ _ _ _ _ _); with_reducible refine ce2 (finite_spec _ _) ?_)
    · rename_i hkc hf
      have hm := at_mem h hlt hkc
      have : finD D = false := by
        unfold finD
        rw [List.all_eq_false]
        exact ⟨_, hm, by simpa using hf⟩
      rw [this]
    · rename_i hkc hf
      refine ⟨j' - 1, by omega, k + 1, by omega, ?_, by rw [wrap_suc (by assumption) (by omega)]⟩
      intro k' hk'
      by_cases e : k' = k
      · subst e; simpa using hf
      · exact hrow k' (by omega)
    · rename_i hkc
      refine ⟨j - 1, by omega, i + 1, by omega, ?_, by rw [wrap_suc (by assumption) (by omega)]⟩
      intro i' k' hi' hk'
      by_cases e : i' = i
      · subst e; exact hrow k' (by omega)
      · exact hall i' k' (by omega) hk'
  · rename_i hlt
    have : finD D = true := by
      unfold finD
      rw [List.all_eq_true]
      exact all_places h (p := fun x => finiteM x = true) fun i' k' hi' hk' => hall i' k' (by omega) hk'
    rw [this]

def scaleD (n : Int) (D : List Int) : List Int := D.map fun b => (scaleM b n).1
def part (G D : List Int) (t : Nat) : List Int := G.take t ++ D.drop t
theorem part_zero (G D : List Int) : part G D 0 = D := by simp [part]
theorem part_all {G D : List Int} (h : G.length = D.length) : part G D D.length = G := by
  unfold part
  rw [← h, List.take_length]
  simp [h]
theorem part_len {G D : List Int} (h : G.length = D.length) {t : Nat} (ht : t ≤ D.length) : (part G D t).length = D.length := by unfold part; simp; omega
theorem part_get {G D : List Int} (h : G.length = D.length) {t : Nat} (ht : t < D.length) : (part G D t)[t]? = some (D.getD t 0) := by
  unfold part
  rw [List.getElem?_append_right (by simp; omega)]
  simp [List.getD_eq_getElem?_getD, ht]
  have : min t G.length = t := by omega
  rw [this]
  simp [ht]
theorem part_set {G D : List Int} (h : G.length = D.length) {t : Nat} (ht : t < D.length) : (part G D t).set t (G.getD t 0) = part G D (t + 1) := by
  unfold part
  apply List.ext_getElem?
  intro i
  rw [List.getElem?_set]
  split
  · rename_i he
    subst he
    rw [if_pos (by simp; omega), List.getElem?_append_left (by simp; omega)]
    simp [List.getD_eq_getElem?_getD, h, ht]
  · rename_i hne
    rcases Nat.lt_or_ge i t with hlt | hge
    · rw [List.getElem?_append_left (by simp; omega), List.getElem?_append_left (by simp; omega)]
      simp [List.getElem?_take, hlt]
      omega
    · rw [List.getElem?_append_right (by simp; omega), List.getElem?_append_right (by simp; omega)]
      simp only [List.length_take, List.getElem?_drop]
      congr 1
      omega
theorem scaleD_in {D : List Int} (h : InD D) (n : Int) : InD (scaleD n D) := by
  intro x hx
  simp only [scaleD, List.mem_map] at hx
  obtain ⟨y, hy, rfl⟩ := hx
  exact scaleM_in (h y hy) n
theorem scaleD_len (n : Int) (D : List Int) : (scaleD n D).length = D.length := by simp [scaleD]
theorem scaleD_get (n : Int) (D : List Int) {k : Nat} (h : k < D.length) : (scaleD n D).getD k 0 = (scaleM (D.getD k 0) n).1 := by
  simp [scaleD, List.getD_eq_getElem?_getD, h]
def scaleG (n : Int) (D : List Int) (k : Nat) : Int := iter (fun k g => bits .or .u8 g (scaleM (D.getD k 0) n).2) k 0
theorem scale_mspec {r c : Int} {p z : Nat} {D : List Int} (h : MatOk r c D) (hI : InD D) (n : Int) {N : Nat} (hN : D.length = N) {H : MH} {rw : Bool} (hp : hget H p = some ⟨D.map u64, rw⟩) :
    Spec Try.prog 46 [mx r c c p N z, i64 n] H fun v H' => v = .tup [mx r c c H.length N N, u8 (scaleG n D N)] ∧ H' = H ++ [some ⟨(scaleD n D).map u64, true⟩] := by
  have hr : 0 ≤ r ∧ r ≤ 4096 := ⟨h.r0, h.r1⟩
  have hc : 0 ≤ c ∧ c ≤ 4096 := ⟨h.c0, h.c1⟩
  have hpl := lt_of_hget hp
  have hNb : N ≤ 16777216 := by
    have h1 := h.len
    have h2 : r * c ≤ 4096 * 4096 := Int.mul_le_mul hr.2 hc.2 hc.1 (by omega)
    omega
  refine Spec.one (q := 2) (J := [some ⟨[i64 r, i64 c, i64 c, .slice p 0 N z 1], true⟩, some ⟨[i64 r, i64 c, i64 c, .slice (H.length + 2) 0 N N 1], true⟩, some ⟨(scaleD n D).map u64, true⟩, some ⟨[i64 r, i64 c, i64 c, .slice (H.length + 2) 0 N N 1], true⟩])
    (v := fun p => .tup [mx r c c p N N, u8 (scaleG n D N)]) (closed_u64 _) (fun p => by simp [Cl, Cls']) (fun π p _ => by simp [ren, rens]) rfl ?_
  refine enterS Try.func46 [.cell 4 26, .tmp 5] ?_
  repeat' first | (with_reducible (show W _ _ _ _ _); with_reducible refine go2 ?_) | (with_reducible (show W _ _ _ _ _); with_reducible refine sg2 ?_ ?_ <;> intro _) | (with_reducible (show W _ _ _ _ _); with_reducible refine sc2 ?_ ?_ <;> intro _) | ((with_reducible (show CallK _ _ _ _ _ _ _ _ _ _ _); with_reducible refine cm2 (clone_spec h hN ((hget_old hpl).trans hp)) ?_))
  refine W_for (fun j ρ H' => ∃ k : Nat, k + j = N ∧ ρ 1 = i64 n ∧ ρ 4 = .ptr (H.length + 1) 0 ∧ ρ 6 = .ptr (H.length + 3) 0 ∧ ρ 7 = u8 (scaleG n D k) ∧ ρ 15 = .slice (H.length + 2) 0 N N 1 ∧ ρ 16 = i64 (N : Int) ∧ ρ 17 = i64 k ∧
    H' = H ++ [some ⟨[i64 r, i64 c, i64 c, .slice p 0 N z 1], true⟩, some ⟨[i64 0, i64 0, i64 0, .lit (.slice none 0 0)], true⟩, some ⟨(part (scaleD n D) D k).map u64, true⟩, some ⟨[i64 r, i64 c, i64 c, .slice (H.length + 2) 0 N N 1], true⟩]) N ?_ ?_
  · refine ⟨0, by omega, ?_⟩
    simp [put, args0, part_zero, scaleG, iter]
  rintro j ρ H' ⟨k, hk, h1, h4, h6, h7, h15, h16, h17, rfl⟩
  have hle := scaleD_len n D
  have hl : (part (scaleD n D) D k).length = N := (part_len hle (by omega)).trans hN
  have f3 : ∀ m : Nat, (0 ≤ (m : Int)) = True := fun m => eq_true (by omega)
  have f5 : ∀ m : Nat, (m : Int).toNat = m := fun m => Int.toNat_natCast m
  have f6 : ∀ m : Nat, m * 1 = m := Nat.mul_one
  have f7 : (k : Int) < N → ((part (scaleD n D) D k).map u64)[k]? = some (u64 (D.getD k 0)) := fun h => by rw [List.getElem?_map, part_get hle (by omega)]; rfl
  have f8 : (k : Int) < N → (k + 1 ≤ (List.map u64 (part (scaleD n D) D k)).length) = True := fun h => eq_true (by rw [List.length_map, hl]; omega)
  have hin : InU (D.getD k 0) := getD_in hI k
  repeat' first | (with_reducible (show W _ _ _ _ _); with_reducible refine go2 ?_) | (with_reducible (show W _ _ _ _ _); with_reducible refine sg2 ?_ ?_ <;> intro _) | (with_reducible (show W _ _ _ _ _); with_reducible refine sc2 ?_ ?_ <;> intro _) | (with_reducible (show CallK _ _ _ _ _ _ _ _ _ _ _); with_reducible refine ce2 (scale_spec hin _ _) ?_)
  · rename_i hlt
    refine ⟨j - 1, by omega, k + 1, by omega, rfl, by rw [wrap_suc (by assumption) (by omega)], ?_⟩
    rw [← part_set hle (by omega), scaleD_get n D (by omega), List.map_set]
  · have : k = N := by omega
    subst this
    subst hN
    rw [part_all hle]
    exact ⟨rfl, rfl⟩

/-- The greatest number of a matrix without its sign. -/
def mostS (r c : Int) (D : List Int) (i k : Nat) (s : Int) : Int := if s < absM (atM r c c D i k) then absM (atM r c c D i k) else s
def mostR (r c : Int) (D : List Int) (i n : Nat) (s : Int) : Int := iter (mostS r c D i) n s
def mostM (r c : Int) (D : List Int) (n : Nat) : Int := iter (fun i s => mostR r c D i c.toNat s) n 0
theorem mostR_in {r c : Int} {D : List Int} (i : Nat) {s : Int} (h : InU s) : ∀ n, InU (mostR r c D i n s)
  | 0 => h
  | n + 1 => by
    have ih := mostR_in (r := r) (c := c) (D := D) i h n
    show InU (mostS r c D i n (mostR r c D i n s))
    unfold mostS
    split
    · exact abs_in _
    · exact ih
theorem mostM_in (r c : Int) (D : List Int) : ∀ n, InU (mostM r c D n)
  | 0 => zero_in
  | n + 1 => mostR_in n (mostM_in r c D n) _
def unitP (r c : Int) (D : List Int) : Int × Int := partsM (mostM r c D r.toNat)
def unitE (r c : Int) (D : List Int) : Int := if (unitP r c D).1 = 0 then 0 else powE 64 (unitP r c D).1 (unitP r c D).2
def unitD (r c : Int) (D : List Int) : List Int := if (unitP r c D).1 = 0 then D else scaleD (IntKind.i64.wrap (-unitE r c D)) D
theorem unitD_len (r c : Int) (D : List Int) : (unitD r c D).length = D.length := by unfold unitD; split <;> simp [scaleD]
theorem unitD_ok {r c : Int} {D : List Int} (h : MatOk r c D) : MatOk r c (unitD r c D) := ⟨h.r0, h.r1, h.c0, h.c1, (unitD_len r c D).trans h.len⟩
theorem unitD_in {r c : Int} {D : List Int} (h : InD D) : InD (unitD r c D) := by
  unfold unitD
  split
  · exact h
  · exact scaleD_in h _
theorem unit_mspec {r c : Int} {p z : Nat} {D : List Int} (h : MatOk r c D) (hI : InD D) {N : Nat} (hN : D.length = N) {H : MH} {rw : Bool} (hp : hget H p = some ⟨D.map u64, rw⟩) :
    Spec Try.prog 23 [mx r c c p N z] H fun v H' => v = .tup [mx r c c H.length N N, i64 (unitE r c D)] ∧ H' = H ++ [some ⟨(unitD r c D).map u64, true⟩] := by
  have hr : 0 ≤ r ∧ r ≤ 4096 := ⟨h.r0, h.r1⟩
  have hc : 0 ≤ c ∧ c ≤ 4096 := ⟨h.c0, h.c1⟩
  have hpl := lt_of_hget hp
  refine Spec.one (q := 2) (J := [some ⟨[i64 r, i64 c, i64 c, .slice p 0 N z 1], true⟩, some ⟨[i64 r, i64 c, i64 c, .slice (H.length + 2) 0 N N 1], true⟩, some ⟨(unitD r c D).map u64, true⟩] ++ (if (unitP r c D).1 = 0 then [] else [some ⟨[i64 r, i64 c, i64 c, .slice (H.length + 2) 0 N N 1], true⟩]))
    (v := fun p => .tup [mx r c c p N N, i64 (unitE r c D)]) (closed_u64 _) (fun p => by simp [Cl, Cls']) (fun π p _ => by simp [ren, rens]) (by split <;> rfl) ?_
  refine enterS Try.func23 [.cell 2 26, .tmp 3] ?_
  repeat' first | (with_reducible (show W _ _ _ _ _); with_reducible refine go2 ?_) | (with_reducible (show W _ _ _ _ _); with_reducible refine sg2 ?_ ?_ <;> intro _) | (with_reducible (show W _ _ _ _ _); with_reducible refine sc2 ?_ ?_ <;> intro _)
  refine W_for (fun j ρ H' => ∃ i : Nat, i + j = r.toNat ∧ ρ 1 = .ptr H.length 0 ∧ ρ 2 = .ptr (H.length + 1) 0 ∧ ρ 4 = u64 (mostM r c D i) ∧ ρ 12 = i64 r ∧ ρ 13 = i64 i ∧
    H' = H ++ [some ⟨[i64 r, i64 c, i64 c, .slice p 0 N z 1], true⟩, some ⟨[i64 0, i64 0, i64 0, .lit (.slice none 0 0)], true⟩]) r.toNat ?_ ?_
  · refine ⟨0, by omega, ?_⟩
    simp [put, args0, mostM, iter]
  rintro j ρ H' ⟨i, hi, h1, h2, h4, h12, h13, rfl⟩
  have hmi := mostM_in r c D i
  repeat' first | (with_reducible (show W _ _ _ _ _); with_reducible refine go2 ?_) | (with_reducible (show W _ _ _ _ _); with_reducible refine sg2 ?_ ?_ <;> intro _) | (with_reducible (show W _ _ _ _ _); with_reducible refine sc2 ?_ ?_ <;> intro _) | (with_reducible (show CallK _ _ _ _ _ _ _ _ _ _ _); with_reducible refine ce2 (parts_spec _ _) ?_)
  · rename_i hlt
    refine W_for (fun j' ρ H' => ∃ k : Nat, k + j' = c.toNat ∧ ρ 1 = .ptr H.length 0 ∧ ρ 2 = .ptr (H.length + 1) 0 ∧ ρ 4 = u64 (mostR r c D i k (mostM r c D i)) ∧ ρ 5 = i64 i ∧ ρ 12 = i64 r ∧ ρ 13 = i64 i ∧ ρ 17 = i64 c ∧ ρ 18 = i64 k ∧
      H' = H ++ [some ⟨[i64 r, i64 c, i64 c, .slice p 0 N z 1], true⟩, some ⟨[i64 0, i64 0, i64 0, .lit (.slice none 0 0)], true⟩]) c.toNat ?_ ?_
    · refine ⟨0, by omega, ?_⟩
      simp [put, mostR, iter, *]
    clear h1 h2 h4 h12 h13
    rintro j' ρ' H' ⟨k, hk, h1, h2, h4, h5, h12, h13, h17, h18, rfl⟩
    repeat' first | (with_reducible (show W _ _ _ _ _); with_reducible refine go2 ?_) | (with_reducible (show W _ _ _ _ _); with_reducible refine sg2 ?_ ?_ <;> intro _) | (with_reducible (show W _ _ _ _ _); with_reducible refine sc2 ?_ ?_ <;> intro _) | (with_reducible (show CallK _ _ _ _ _ _ _ _ _ _ _); with_reducible refine ce2 (at_ok h _ _ ((hget_old hpl).trans hp) hN) ?_) | (with_reducible (show CallK _ _ _ _ _ _ _ _ _ _ _); with_reducible refine ce2 (abs_spec _ _) ?_)
    · refine ⟨j' - 1, by omega, k + 1, by omega, rfl, by rw [wrap_suc (by assumption) (by omega)]⟩
    · have : k = c.toNat := by omega
      subst this
      exact ⟨j - 1, by omega, i + 1, by omega, rfl, by rw [wrap_suc (by assumption) (by omega)]⟩
  · rename_i hge h0
    have : i = r.toNat := by omega
    subst this
    have hE : unitE r c D = 0 := if_pos h0
    have hD : unitD r c D = D := if_pos h0
    have hP : (unitP r c D).1 = 0 := h0
    repeat' first | (with_reducible (show W _ _ _ _ _); with_reducible refine go2 ?_) | (with_reducible (show W _ _ _ _ _); with_reducible refine sg2 ?_ ?_ <;> intro _) | (with_reducible (show W _ _ _ _ _); with_reducible refine sc2 ?_ ?_ <;> intro _) | ((with_reducible (show CallK _ _ _ _ _ _ _ _ _ _ _); with_reducible refine cm2 (clone_spec h hN ((hget_old hpl).trans hp)) ?_))
    trivial
  · rename_i hge h0
    have : i = r.toNat := by omega
    subst this
    have hE : unitE r c D = powE 64 (unitP r c D).1 (unitP r c D).2 := if_neg h0
    have hD : unitD r c D = scaleD (IntKind.i64.wrap (-unitE r c D)) D := if_neg h0
    have hP : ¬(unitP r c D).1 = 0 := h0
    have hn : InU (unitP r c D).1 := parts_in hmi
    refine W_for (fun j ρ H' => ∃ n e : Int, InU n ∧ n < 2 ^ j ∧ powE j n e = unitE r c D ∧ ρ 1 = .ptr H.length 0 ∧ ρ 2 = .ptr (H.length + 1) 0 ∧ ρ 7 = u64 n ∧ ρ 8 = i64 e ∧
      H' = H ++ [some ⟨[i64 r, i64 c, i64 c, .slice p 0 N z 1], true⟩, some ⟨[i64 0, i64 0, i64 0, .lit (.slice none 0 0)], true⟩]) 64 ?_ ?_
    · refine ⟨(unitP r c D).1, (unitP r c D).2, hn, hn.2, hE.symm, ?_⟩
      simp [put, args0, unitP, *]
    clear h1 h2 h4 h12 h13
    rintro j ρ H' ⟨n, e, hn, hlt, hp', h1, h2, h7, h8, rfl⟩
    repeat' first | (with_reducible (show W _ _ _ _ _); with_reducible refine go2 ?_) | (with_reducible (show W _ _ _ _ _); with_reducible refine sg2 ?_ ?_ <;> intro _) | (with_reducible (show W _ _ _ _ _); with_reducible refine sc2 ?_ ?_ <;> intro _) | ((with_reducible (show CallK _ _ _ _ _ _ _ _ _ _ _); with_reducible refine cm2 (scale_mspec h hI _ hN ((hget_old hpl).trans hp)) ?_))
    · rename_i h1
      obtain ⟨j, rfl⟩ : ∃ i, j = i + 1 := by
        cases j with
        | zero => simp at hlt; omega
        | succ i => exact ⟨i, rfl⟩
      have e1 : powE (j + 1) n e = powE j (shrV .u64 n 1) (IntKind.i64.wrap (e + 1)) := by rw [powE, if_pos h1]
      refine ⟨j, by omega, _, _, shr_inU hn 1, ?_, e1.symm.trans (hp'.trans hE), rfl, rfl⟩
      rw [shr1 hn]
      have : (2 : Int) ^ (j + 1) = 2 ^ j * 2 := Int.pow_succ 2 j
      omega
    · rename_i h1
      have : powE j n e = e := by
        cases j with
        | zero => rfl
        | succ j => rw [powE, if_neg h1]
      rw [this, hE] at hp'
      rw [← hp', Int.zero_sub]
      exact ⟨rfl, rfl⟩
end Go.Proofs.Ytamoljalficfgaa.M
