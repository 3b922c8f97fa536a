/- Matrices: all finite; times a power of two; divided by their greatest number's. -/
import Derived.Test.YtcikcinkjbbnhaaDoorC23
set_option linter.unusedSimpArgs false
set_option linter.unusedVariables false
set_option maxRecDepth 10000
set_option maxHeartbeats 4000000
namespace Go.Proofs.YtcikcinkjbbnhaaDoor.M
open Go Go.Proofs

/-- What the walk is not to take for a rewrite rule. -/
def Hid2 (p : Prop) : Prop := p
/-- All numbers of a matrix, seen one behind the other. -/
theorem all_places {r c : Int} {D : List Int} (h : MatOk r c D) {p : Int → Prop} (hp : ∀ i k : Nat, (i : Int) < r → (k : Int) < c → p (atM r c c D i k)) : ∀ x ∈ D, p x := by
  intro x hx
  rw [← gen_at h] at hx
  simp only [genM, List.mem_map, List.mem_range] at hx
  obtain ⟨t, ht, rfl⟩ := hx
  rw [Int.toNat_mul h.r0 h.c0] at ht
  have hc0 : 0 < c.toNat := by
    rcases Nat.eq_zero_or_pos c.toNat with h0 | h0
    · rw [h0] at ht; omega
    · exact h0
  have h1 : t / c.toNat < r.toNat := by rw [Nat.div_lt_iff_lt_mul hc0]; exact ht
  have h2 : t % c.toNat < c.toNat := Nat.mod_lt _ hc0
  refine hp _ _ ?_ ?_
  · have := Int.ofNat_lt.2 h1; rw [Int.toNat_of_nonneg h.r0] at this; exact this
  · have := Int.ofNat_lt.2 h2; rw [Int.toNat_of_nonneg h.c0] at this; exact this
theorem at_mem {r c : Int} {D : List Int} (h : MatOk r c D) {i k : Nat} (hi : (i : Int) < r) (hk : (k : Int) < c) : atM r c c D i k ∈ D := by
  rw [atM_in' h hi hk]
  have := place_lt h.r0 h.c0 hi hk
  rw [← h.len] at this
  rw [List.getD_eq_getElem?_getD, List.getElem?_eq_getElem this]
  exact List.getElem_mem this

def finD (D : List Int) : Bool := D.all finiteM
theorem finite_mspec {r c : Int} {p z : Nat} {D : List Int} (h : MatOk r c D) {N : Nat} (hN : D.length = N) {H : MH} {rw : Bool} (hp : hget H p = some ⟨D.map u64, rw⟩) :
    Spec Tryd.prog 31 [mx r c c p N z] H fun v H' => v = bl (finD D) ∧ H' = H := by
  have hpl := lt_of_hget hp
  have hr := h.r1
  have hc := h.c1
  refine Spec.scalar (enterS Tryd.func31 [.tmp 2] ?_)
  repeat' first | (with_reducible (show W _ _ _ _ _); with_reducible refine go2 ?_) | (with_reducible (show W _ _ _ _ _); with_reducible refine sg2 ?_ ?_ <;> intro _) | (with_reducible (show W _ _ _ _ _); with_reducible refine sc2 ?_ ?_ <;> intro _)
  refine W_for (fun j ρ H' => ∃ i : Nat, i + j = r.toNat ∧ (∀ i' k : Nat, i' < i → (k : Int) < c → finiteM (atM r c c D i' k) = true) ∧ ρ 1 = .ptr H.length 0 ∧ ρ 6 = i64 r ∧ ρ 7 = i64 i ∧ H' = H ++ [some ⟨[i64 r, i64 c, i64 c, .slice p 0 N z 1], true⟩]) r.toNat ?_ ?_
  · refine ⟨0, by omega, fun i' k hi => by omega, ?_⟩
    simp [put, args0]
  rintro j ρ H' ⟨i, hi, hall, h1, h6, h7, rfl⟩
  replace hall : Hid2 (∀ i' k : Nat, i' < i → (k : Int) < c → finiteM (atM r c c D i' k) = true) := hall
  repeat' first | (with_reducible (show W _ _ _ _ _); with_reducible refine go2 ?_) | (with_reducible (show W _ _ _ _ _); with_reducible refine sg2 ?_ ?_ <;> intro _) | (with_reducible (show W _ _ _ _ _); with_reducible refine sc2 ?_ ?_ <;> intro _)
  · rename_i hlt
    refine W_for (fun j' ρ H' => ∃ k : Nat, k + j' = c.toNat ∧ Hid2 (∀ k' : Nat, k' < k → finiteM (atM r c c D i k') = true) ∧ ρ 1 = .ptr H.length 0 ∧ ρ 3 = i64 i ∧ ρ 6 = i64 r ∧ ρ 7 = i64 i ∧ ρ 11 = i64 c ∧ ρ 12 = i64 k ∧ H' = H ++ [some ⟨[i64 r, i64 c, i64 c, .slice p 0 N z 1], true⟩]) c.toNat ?_ ?_
    · refine ⟨0, by omega, fun k' hk => by omega, ?_⟩
      simp [put, *]
    clear h1 h6 h7
    rintro j' ρ' H' ⟨k, hk, hrow, h1, h3, h6, h7, h11, h12, rfl⟩
    repeat' first | (with_reducible (show W _ _ _ _ _); with_reducible refine go2 ?_) | (with_reducible (show W _ _ _ _ _); with_reducible refine sg2 ?_ ?_ <;> intro _) | (with_reducible (show W _ _ _ _ _); with_reducible refine sc2 ?_ ?_ <;> intro _) | (with_reducible (show CallK _ _ _ _ _ _ _ _ _ _ _); with_reducible refine ce2 (at_ok h _ _ ((hget_old hpl).trans hp) hN) ?_) | (with_reducible (show CallK _ _ _ _ _ _ _ _ _ _ _); with_reducible refine ce2 (finite_spec _ _) ?_)
    · rename_i hkc hf
      have hm := at_mem h hlt hkc
      have : finD D = false := by
        unfold finD
        rw [List.all_eq_false]
        exact ⟨_, hm, by simpa using hf⟩
      rw [this]
    · rename_i hkc hf
      refine ⟨j' - 1, by omega, k + 1, by omega, ?_, by rw [wrap_suc (by assumption) (by omega)]⟩
      intro k' hk'
      by_cases e : k' = k
      · subst e; simpa using hf
      · exact hrow k' (by omega)
    · rename_i hkc
      refine ⟨j - 1, by omega, i + 1, by omega, ?_, by rw [wrap_suc (by assumption) (by omega)]⟩
      intro i' k' hi' hk'
      by_cases e : i' = i
      · subst e; exact hrow k' (by omega)
      · exact hall i' k' (by omega) hk'
  · rename_i hlt
    have : finD D = true := by
      unfold finD
      rw [List.all_eq_true]
      exact all_places h (p := fun x => finiteM x = true) fun i' k' hi' hk' => hall i' k' (by omega) hk'
    rw [this]

def scaleD (n : Int) (D : List Int) : List Int := D.map fun b => (scaleM b n).1
def part (G D : List Int) (t : Nat) : List Int := G.take t ++ D.drop t
theorem part_zero (G D : List Int) : part G D 0 = D := by simp [part]
theorem part_all {G D : List Int} (h : G.length = D.length) : part G D D.length = G := by
  unfold part
  rw [← h, List.take_length]
  simp [h]
theorem part_len {G D : List Int} (h : G.length = D.length) {t : Nat} (ht : t ≤ D.length) : (part G D t).length = D.length := by unfold part; simp; omega
theorem part_get {G D : List Int} (h : G.length = D.length) {t : Nat} (ht : t < D.length) : (part G D t)[t]? = some (D.getD t 0) := by
  unfold part
  rw [List.getElem?_append_right (by simp; omega)]
  simp [List.getD_eq_getElem?_getD, ht]
  have : min t G.length = t := by omega
  rw [this]
  simp [ht]
theorem part_set {G D : List Int} (h : G.length = D.length) {t : Nat} (ht : t < D.length) : (part G D t).set t (G.getD t 0) = part G D (t + 1) := by
  unfold part
  apply List.ext_getElem?
  intro i
  rw [List.getElem?_set]
  split
  · rename_i he
    subst he
    rw [if_pos (by simp; omega), List.getElem?_append_left (by simp; omega)]
    simp [List.getD_eq_getElem?_getD, h, ht]
  · rename_i hne
    rcases Nat.lt_or_ge i t with hlt | hge
    · rw [List.getElem?_append_left (by simp; omega), List.getElem?_append_left (by simp; omega)]
      simp [List.getElem?_take, hlt]
      omega
    · rw [List.getElem?_append_right (by simp; omega), List.getElem?_append_right (by simp; omega)]
      simp only [List.length_take, List.getElem?_drop]
      congr 1
      omega
theorem scaleD_in {D : List Int} (h : InD D) (n : Int) : InD (scaleD n D) := by
  intro x hx
  simp only [scaleD, List.mem_map] at hx
  obtain ⟨y, hy, rfl⟩ := hx
  exact scaleM_in (h y hy) n
theorem scaleD_len (n : Int) (D : List Int) : (scaleD n D).length = D.length := by simp [scaleD]
theorem scaleD_get (n : Int) (D : List Int) {k : Nat} (h : k < D.length) : (scaleD n D).getD k 0 = (scaleM (D.getD k 0) n).1 := by
  simp [scaleD, List.getD_eq_getElem?_getD, h]
def scaleG (n : Int) (D : List Int) (k : Nat) : Int := iter (fun k g => bits .or .u8 g (scaleM (D.getD k 0) n).2) k 0
theorem scale_mspec {r c : Int} {p z : Nat} {D : List Int} (h : MatOk r c D) (hI : InD D) (n : Int) {N : Nat} (hN : D.length = N) {H : MH} {rw : Bool} (hp : hget H p = some ⟨D.map u64, rw⟩) :
    Spec Tryd.prog 34 [mx r c c p N z, i64 n] H fun v H' => v = .tup [mx r c c H.length N N, u8 (scaleG n D N)] ∧ H' = H ++ [some ⟨(scaleD n D).map u64, true⟩] := by
  have hr : 0 ≤ r ∧ r ≤ 4096 := ⟨h.r0, h.r1⟩
  have hc : 0 ≤ c ∧ c ≤ 4096 := ⟨h.c0, h.c1⟩
  have hpl := lt_of_hget hp
  have hNb : N ≤ 16777216 := by
    have h1 := h.len
    have h2 : r * c ≤ 4096 * 4096 := Int.mul_le_mul hr.2 hc.2 hc.1 (by omega)
    omega
  refine Spec.one (q := 2) (J := [some ⟨[i64 r, i64 c, i64 c, .slice p 0 N z 1], true⟩, some ⟨[i64 r, i64 c, i64 c, .slice (H.length + 2) 0 N N 1], true⟩, some ⟨(scaleD n D).map u64, true⟩, some ⟨[i64 r, i64 c, i64 c, .slice (H.length + 2) 0 N N 1], true⟩])
    (v := fun p => .tup [mx r c c p N N, u8 (scaleG n D N)]) (closed_u64 _) (fun p => by simp [Cl, Cls']) (fun π p _ => by simp [ren, rens]) rfl ?_
  refine enterS Tryd.func34 [.cell 4 56, .tmp 5] ?_
  repeat' first | (with_reducible (show W _ _ _ _ _); with_reducible refine go2 ?_) | (with_reducible (show W _ _ _ _ _); with_reducible refine sg2 ?_ ?_ <;> intro _) | (with_reducible (show W _ _ _ _ _); with_reducible refine sc2 ?_ ?_ <;> intro _) | ((with_reducible (show CallK _ _ _ _ _ _ _ _ _ _ _); with_reducible refine cm2 (clone_spec h hN ((hget_old hpl).trans hp)) ?_))
  refine W_for (fun j ρ H' => ∃ k : Nat, k + j = N ∧ ρ 1 = i64 n ∧ ρ 4 = .ptr (H.length + 1) 0 ∧ ρ 6 = .ptr (H.length + 3) 0 ∧ ρ 7 = u8 (scaleG n D k) ∧ ρ 15 = .slice (H.length + 2) 0 N N 1 ∧ ρ 16 = i64 (N : Int) ∧ ρ 17 = i64 k ∧
    H' = H ++ [some ⟨[i64 r, i64 c, i64 c, .slice p 0 N z 1], true⟩, some ⟨[i64 0, i64 0, i64 0, .lit (.slice none 0 0)], true⟩, some ⟨(part (scaleD n D) D k).map u64, true⟩, some ⟨[i64 r, i64 c, i64 c, .slice (H.length + 2) 0 N N 1], true⟩]) N ?_ ?_
  · refine ⟨0, by omega, ?_⟩
    simp [put, args0, part_zero, scaleG, iter]
  rintro j ρ H' ⟨k, hk, h1, h4, h6, h7, h15, h16, h17, rfl⟩
  have hle := scaleD_len n D
  have hl : (part (scaleD n D) D k).length = N := (part_len hle (by omega)).trans hN
  have f3 : ∀ m : Nat, (0 ≤ (m : Int)) = True := fun m => eq_true (by omega)
  have f5 : ∀ m : Nat, (m : Int).toNat = m := fun m => Int.toNat_natCast m
  have f6 : ∀ m : Nat, m * 1 = m := Nat.mul_one
  have f7 : (k : Int) < N → ((part (scaleD n D) D k).map u64)[k]? = some (u64 (D.getD k 0)) := fun h => by rw [List.getElem?_map, part_get hle (by omega)]; rfl
  have f8 : (k : Int) < N → (k + 1 ≤ (List.map u64 (part (scaleD n D) D k)).length) = True := fun h => eq_true (by rw [List.length_map, hl]; omega)
  have hin : InU (D.getD k 0) := getD_in hI k
  repeat' first | (with_reducible (show W _ _ _ _ _); with_reducible refine go2 ?_) | (with_reducible (show W _ _ _ _ _); with_reducible refine sg2 ?_ ?_ <;> intro _) | (with_reducible (show W _ _ _ _ _); with_reducible refine sc2 ?_ ?_ <;> intro _) | (with_reducible (show CallK _ _ _ _ _ _ _ _ _ _ _); with_reducible refine ce2 (scale_spec hin _ _) ?_)
  · rename_i hlt
    refine ⟨j - 1, by omega, k + 1, by omega, rfl, by rw [wrap_suc (by assumption) (by omega)], ?_⟩
    rw [← part_set hle (by omega), scaleD_get n D (by omega), List.map_set]
  · have : k = N := by omega
    subst this
    subst hN
    rw [part_all hle]
    exact ⟨rfl, rfl⟩

/-- The greatest number of a matrix without its sign. -/
def mostS (r c : Int) (D : List Int) (i k : Nat) (s : Int) : Int := if s < absM (atM r c c D i k) then absM (atM r c c D i k) else s
def mostR (r c : Int) (D : List Int) (i n : Nat) (s : Int) : Int := iter (mostS r c D i) n s
def mostM (r c : Int) (D : List Int) (n : Nat) : Int := iter (fun i s => mostR r c D i c.toNat s) n 0
theorem mostR_in {r c : Int} {D : List Int} (i : Nat) {s : Int} (h : InU s) : ∀ n, InU (mostR r c D i n s)
  | 0 => h
  | n + 1 => by
    have ih := mostR_in (r := r) (c := c) (D := D) i h n
    show InU (mostS r c D i n (mostR r c D i n s))
    unfold mostS
    split
    · exact abs_in _
    · exact ih
theorem mostM_in (r c : Int) (D : List Int) : ∀ n, InU (mostM r c D n)
  | 0 => zero_in
  | n + 1 => mostR_in n (mostM_in r c D n) _
def unitP (r c : Int) (D : List Int) : Int × Int := partsM (mostM r c D r.toNat)
def unitE (r c : Int) (D : List Int) : Int := if (unitP r c D).1 = 0 then 0 else powE 64 (unitP r c D).1 (unitP r c D).2
def unitD (r c : Int) (D : List Int) : List Int := if (unitP r c D).1 = 0 then D else scaleD (IntKind.i64.wrap (-unitE r c D)) D
theorem unitD_len (r c : Int) (D : List Int) : (unitD r c D).length = D.length := by unfold unitD; split <;> simp [scaleD]
theorem unitD_ok {r c : Int} {D : List Int} (h : MatOk r c D) : MatOk r c (unitD r c D) := ⟨h.r0, h.r1, h.c0, h.c1, (unitD_len r c D).trans h.len⟩
theorem unitD_in {r c : Int} {D : List Int} (h : InD D) : InD (unitD r c D) := by
  unfold unitD
  split
  · exact h
  · exact scaleD_in h _
theorem unit_mspec {r c : Int} {p z : Nat} {D : List Int} (h : MatOk r c D) (hI : InD D) {N : Nat} (hN : D.length = N) {H : MH} {rw : Bool} (hp : hget H p = some ⟨D.map u64, rw⟩) :
    Spec Tryd.prog 49 [mx r c c p N z] H fun v H' => v = .tup [mx r c c H.length N N, i64 (unitE r c D)] ∧ H' = H ++ [some ⟨(unitD r c D).map u64, true⟩] := by
  have hr : 0 ≤ r ∧ r ≤ 4096 := ⟨h.r0, h.r1⟩
  have hc : 0 ≤ c ∧ c ≤ 4096 := ⟨h.c0, h.c1⟩
  have hpl := lt_of_hget hp
  refine Spec.one (q := 2) (J := [some ⟨[i64 r, i64 c, i64 c, .slice p 0 N z 1], true⟩, some ⟨[i64 r, i64 c, i64 c, .slice (H.length + 2) 0 N N 1], true⟩, some ⟨(unitD r c D).map u64, true⟩] ++ (if (unitP r c D).1 = 0 then [] else [some ⟨[i64 r, i64 c, i64 c, .slice (H.length + 2) 0 N N 1], true⟩]))
    (v := fun p => .tup [mx r c c p N N, i64 (unitE r c D)]) (closed_u64 _) (fun p => by simp [Cl, Cls']) (fun π p _ => by simp [ren, rens]) (by split <;> rfl) ?_
  refine enterS Tryd.func49 [.cell 2 56, .tmp 3] ?_
  repeat' first | (with_reducible (show W _ _ _ _ _); with_reducible refine go2 ?_) | (with_reducible (show W _ _ _ _ _); with_reducible refine sg2 ?_ ?_ <;> intro _) | (with_reducible (show W _ _ _ _ _); with_reducible refine sc2 ?_ ?_ <;> intro _)
  refine W_for (fun j ρ H' => ∃ i : Nat, i + j = r.toNat ∧ ρ 1 = .ptr H.length 0 ∧ ρ 2 = .ptr (H.length + 1) 0 ∧ ρ 4 = u64 (mostM r c D i) ∧ ρ 12 = i64 r ∧ ρ 13 = i64 i ∧
    H' = H ++ [some ⟨[i64 r, i64 c, i64 c, .slice p 0 N z 1], true⟩, some ⟨[i64 0, i64 0, i64 0, .lit (.slice none 0 0)], true⟩]) r.toNat ?_ ?_
  · refine ⟨0, by omega, ?_⟩
    simp [put, args0, mostM, iter]
  rintro j ρ H' ⟨i, hi, h1, h2, h4, h12, h13, rfl⟩
  have hmi := mostM_in r c D i
  repeat' first | (with_reducible (show W _ _ _ _ _); with_reducible refine go2 ?_) | (with_reducible (show W _ _ _ _ _); with_reducible refine sg2 ?_ ?_ <;> intro _) | (with_reducible (show W _ _ _ _ _); with_reducible refine sc2 ?_ ?_ <;> intro _) | (with_reducible (show CallK _ _ _ _ _ _ _ _ _ _ _); with_reducible refine ce2 (parts_spec _ _) ?_)
  · rename_i hlt
    refine W_for (fun j' ρ H' => ∃ k : Nat, k + j' = c.toNat ∧ ρ 1 = .ptr H.length 0 ∧ ρ 2 = .ptr (H.length + 1) 0 ∧ ρ 4 = u64 (mostR r c D i k (mostM r c D i)) ∧ ρ 5 = i64 i ∧ ρ 12 = i64 r ∧ ρ 13 = i64 i ∧ ρ 17 = i64 c ∧ ρ 18 = i64 k ∧
      H' = H ++ [some ⟨[i64 r, i64 c, i64 c, .slice p 0 N z 1], true⟩, some ⟨[i64 0, i64 0, i64 0, .lit (.slice none 0 0)], true⟩]) c.toNat ?_ ?_
    · refine ⟨0, by omega, ?_⟩
      simp [put, mostR, iter, *]
    clear h1 h2 h4 h12 h13
    rintro j' ρ' H' ⟨k, hk, h1, h2, h4, h5, h12, h13, h17, h18, rfl⟩
    repeat' first | (with_reducible (show W _ _ _ _ _); with_reducible refine go2 ?_) | (with_reducible (show W _ _ _ _ _); with_reducible refine sg2 ?_ ?_ <;> intro _) | (with_reducible (show W _ _ _ _ _); with_reducible refine sc2 ?_ ?_ <;> intro _) | (with_reducible (show CallK _ _ _ _ _ _ _ _ _ _ _); with_reducible refine ce2 (at_ok h _ _ ((hget_old hpl).trans hp) hN) ?_) | (with_reducible (show CallK _ _ _ _ _ _ _ _ _ _ _); with_reducible refine ce2 (abs_spec _ _) ?_)
    · refine ⟨j' - 1, by omega, k + 1, by omega, rfl, by rw [wrap_suc (by assumption) (by omega)]⟩
    · have : k = c.toNat := by omega
      subst this
      exact ⟨j - 1, by omega, i + 1, by omega, rfl, by rw [wrap_suc (by assumption) (by omega)]⟩
  · rename_i hge h0
    have : i = r.toNat := by omega
    subst this
    have hE : unitE r c D = 0 := if_pos h0
    have hD : unitD r c D = D := if_pos h0
    have hP : (unitP r c D).1 = 0 := h0
    repeat' first | (with_reducible (show W _ _ _ _ _); with_reducible refine go2 ?_) | (with_reducible (show W _ _ _ _ _); with_reducible refine sg2 ?_ ?_ <;> intro _) | (with_reducible (show W _ _ _ _ _); with_reducible refine sc2 ?_ ?_ <;> intro _) | ((with_reducible (show CallK _ _ _ _ _ _ _ _ _ _ _); with_reducible refine cm2 (clone_spec h hN ((hget_old hpl).trans hp)) ?_))
    trivial
  · rename_i hge h0
    have : i = r.toNat := by omega
    subst this
    have hE : unitE r c D = powE 64 (unitP r c D).1 (unitP r c D).2 := if_neg h0
    have hD : unitD r c D = scaleD (IntKind.i64.wrap (-unitE r c D)) D := if_neg h0
    have hP : ¬(unitP r c D).1 = 0 := h0
    have hn : InU (unitP r c D).1 := parts_in hmi
    refine W_for (fun j ρ H' => ∃ n e : Int, InU n ∧ n < 2 ^ j ∧ powE j n e = unitE r c D ∧ ρ 1 = .ptr H.length 0 ∧ ρ 2 = .ptr (H.length + 1) 0 ∧ ρ 7 = u64 n ∧ ρ 8 = i64 e ∧
      H' = H ++ [some ⟨[i64 r, i64 c, i64 c, .slice p 0 N z 1], true⟩, some ⟨[i64 0, i64 0, i64 0, .lit (.slice none 0 0)], true⟩]) 64 ?_ ?_
    · refine ⟨(unitP r c D).1, (unitP r c D).2, hn, hn.2, hE.symm, ?_⟩
      simp [put, args0, unitP, *]
    clear h1 h2 h4 h12 h13
    rintro j ρ H' ⟨n, e, hn, hlt, hp', h1, h2, h7, h8, rfl⟩
    repeat' first | (with_reducible (show W _ _ _ _ _); with_reducible refine go2 ?_) | (with_reducible (show W _ _ _ _ _); with_reducible refine sg2 ?_ ?_ <;> intro _) | (with_reducible (show W _ _ _ _ _); with_reducible refine sc2 ?_ ?_ <;> intro _) | ((with_reducible (show CallK _ _ _ _ _ _ _ _ _ _ _); with_reducible refine cm2 (scale_mspec h hI _ hN ((hget_old hpl).trans hp)) ?_))
    · rename_i h1
      obtain ⟨j, rfl⟩ : ∃ i, j = i + 1 := by
        cases j with
        | zero => simp at hlt; omega
        | succ i => exact ⟨i, rfl⟩
      have e1 : powE (j + 1) n e = powE j (shrV .u64 n 1) (IntKind.i64.wrap (e + 1)) := by rw [powE, if_pos h1]
      refine ⟨j, by omega, _, _, shr_inU hn 1, ?_, e1.symm.trans (hp'.trans hE), rfl, rfl⟩
      rw [shr1 hn]
      have : (2 : Int) ^ (j + 1) = 2 ^ j * 2 := Int.pow_succ 2 j
      omega
    · rename_i h1
      have : powE j n e = e := by
        cases j with
        | zero => rfl
        | succ j => rw [powE, if_neg h1]
      rw [this, hE] at hp'
      rw [← hp', Int.zero_sub]
      exact ⟨rfl, rfl⟩
end Go.Proofs.YtcikcinkjbbnhaaDoor.M

/- Two matrices reflected; the reflection that does nothing. -/
set_option linter.unusedSimpArgs false
set_option linter.unusedVariables false
set_option maxRecDepth 10000
set_option maxHeartbeats 4000000
namespace Go.Proofs.YtcikcinkjbbnhaaDoor.M
open Go Go.Proofs

/-- Two of the new objects are kept. -/
theorem Spec.two {P : Program} {f : FuncId} {args : List MV} {H : MH} {v : Nat → Nat → MV} {cs ds : List MV} {q s : Nat} {J : MH} (hqs : q ≠ s) (hcs : ∀ c ∈ cs, Cl 0 [] c) (hds : ∀ c ∈ ds, Cl 0 [] c) (hv : ∀ p p', Cl H.length [p, p'] (v p p'))
    (hr : ∀ π p p', H.length ≤ p → H.length ≤ p' → ren π (v p p') = v (π p) (π p')) (hq : J[q]? = some (some ⟨cs, true⟩)) (hs : J[s]? = some (some ⟨ds, true⟩)) (h : Spec P f args H fun u H' => u = v (H.length + q) (H.length + s) ∧ H' = H ++ J) :
    Spec P f args H fun u H' => u = v H.length (H.length + 1) ∧ H' = H ++ [some ⟨cs, true⟩, some ⟨ds, true⟩] := by
  refine Spec.gc h ?_
  rintro u H1 ⟨rfl, rfl⟩
  have hgx : ∀ x (o : MO), J[x]? = some (some o) → hget (H ++ J) (H.length + x) = some o := fun x o hx => by
    unfold hget
    rw [List.getElem?_append_right (by omega)]
    have : H.length + x - H.length = x := by omega
    rw [this, hx]; rfl
  have hg := hgx q _ hq
  have hg' := hgx s _ hs
  have hk : keep H.length [H.length + q, H.length + s] (H.length + q) = H.length := by
    unfold keep
    rw [if_neg (by omega)]
    simp
  have hk' : keep H.length [H.length + q, H.length + s] (H.length + s) = H.length + 1 := by
    unfold keep
    rw [if_neg (by omega)]
    have : (H.length + q == H.length + s) = false := by simp; omega
    simp [List.idxOf_cons, this]
  refine ⟨H, J, [H.length + q, H.length + s], rfl, rfl, by simp; omega, by simp, fun p o ho => .inl ho, ?_, hv _ _, ?_, ?_⟩
  · intro p hp o ho c hc
    simp only [List.mem_cons, List.not_mem_nil, or_false] at hp
    rcases hp with rfl | rfl
    · rw [hg] at ho
      cases ho
      exact cl_more (cl_more (cl_mono (Nat.zero_le H.length) c (hcs c hc)))
    · rw [hg'] at ho
      cases ho
      exact cl_more (cl_more (cl_mono (Nat.zero_le H.length) c (hds c hc)))
  · rw [hr _ _ _ (by omega) (by omega), hk, hk']
  · simp only [List.map_cons, List.map_nil, keptO, hg, hg', Option.map_some]
    congr 3
    · congr 1
      exact (List.map_congr_left fun c hc => ren_free c (hcs c hc)).trans (List.map_id' _)
    · congr 3
      exact (List.map_congr_left fun c hc => ren_free c (hds c hc)).trans (List.map_id' _)

theorem both_okG {n : Int} {p p' z z' : Nat} {D E : List Int} (h : MatOk n n D) (hI : InD D) (h' : MatOk n n E) (hI' : InD E) {v : MV} {V : List Int} {N : Nat} (hN : D.length = N) (hN' : E.length = N) {H : MH} {rw rw' : Bool} (hp : hget H p = some ⟨D.map u64, rw⟩) (hp' : hget H p' = some ⟨E.map u64, rw'⟩)
    (hv : Sl H v V) (hV : InD V) (tau m : Int) (hrows : rowsB V.length n m = true) :
    Spec Tryd.prog 74 [mx n n n p N z, mx n n n p' N z', .agg [v, u64 tau], i64 m] H fun u H' => u = .tup [mx n n n H.length N N, mx n n n (H.length + 1) N N] ∧
      H' = H ++ [some ⟨(rightR n n V tau m (leftR n n V tau m (D, 0))).1.map u64, true⟩, some ⟨(rightR n n V tau m (E, (rightR n n V tau m (leftR n n V tau m (D, 0))).2)).1.map u64, true⟩] := by
  have hpl := lt_of_hget hp
  have hpl' := lt_of_hget hp'
  have hX := leftR_ok (V := V) (tau := tau) (m := m) (S := (D, 0)) ⟨h, hI⟩
  have hX1 : MatOk n n (leftR n n V tau m (D, 0)).1 := hX.1
  have hX2 : InD (leftR n n V tau m (D, 0)).1 := hX.2
  have hXN : (leftR n n V tau m (D, 0)).1.length = N := by rw [hX1.len, ← h.len]; exact hN
  refine Spec.two (q := 8) (s := 10) (by decide) (v := fun p p' => .tup [mx n n n p N N, mx n n n p' N N]) (J := [some ⟨[i64 n, i64 n, i64 n, .slice p 0 N z 1], true⟩, some ⟨[i64 n, i64 n, i64 n, .slice p' 0 N z' 1], true⟩, some ⟨[v, u64 tau], true⟩,
    some ⟨[i64 n, i64 n, i64 n, .slice (H.length + 8) 0 N N 1], true⟩, some ⟨[i64 n, i64 n, i64 n, .slice (H.length + 10) 0 N N 1], true⟩, some ⟨[u8 (rightR n n V tau m (E, (rightR n n V tau m (leftR n n V tau m (D, 0))).2)).2], true⟩,
    some ⟨(leftR n n V tau m (D, 0)).1.map u64, true⟩, some ⟨[i64 n, i64 n, i64 n, .slice (H.length + 6) 0 N N 1], true⟩,
    some ⟨(rightR n n V tau m (leftR n n V tau m (D, 0))).1.map u64, true⟩, some ⟨[i64 n, i64 n, i64 n, .slice (H.length + 8) 0 N N 1], true⟩,
    some ⟨(rightR n n V tau m (E, (rightR n n V tau m (leftR n n V tau m (D, 0))).2)).1.map u64, true⟩, some ⟨[i64 n, i64 n, i64 n, .slice (H.length + 10) 0 N N 1], true⟩])
    (closed_u64 _) (closed_u64 _) (fun p p' => by simp [Cl, Cls']) (fun π p p' _ _ => by simp [ren, rens]) rfl rfl ?_
  refine enterS Tryd.func74 [.cell 8 56, .cell 9 56] ?_
  repeat' first | (with_reducible (show W _ _ _ _ _); with_reducible refine go2 ?_) | (with_reducible (show W _ _ _ _ _); with_reducible refine sg2 ?_ ?_ <;> intro _) | (with_reducible (show W _ _ _ _ _); with_reducible refine sc2 ?_ ?_ <;> intro _) | (with_reducible (show W _ _ (.code (.region 6 _ true) :: _) _ _); with_reducible refine W_draw [(0, []), (1, []), (2, [1]), (3, [])] [1] (by kernel_rfl) ?_) | (with_reducible (show W _ _ (.code (.region 7 _ true) :: _) _ _); with_reducible refine W_draw [(0, []), (1, []), (2, [1]), (3, [])] [1] (by kernel_rfl) ?_) | ((with_reducible (show CallK _ _ _ _ _ _ _ _ _ _ _); first | (with_reducible refine cm2 (left_p h hI hN ((hget_old hpl).trans hp) (hv.app _) hV _ _ hrows (hget_newL rfl)) ?_) | (with_reducible refine cm2 (right_p hX1 hX2 hXN (hget_newL rfl) (hv.app _) hV _ _ hrows (hget_newL rfl)) ?_) | (with_reducible refine cm2 (right_p h' hI' hN' ((hget_old hpl').trans hp') (hv.app _) hV _ _ hrows (hget_newL rfl)) ?_)))
  all_goals trivial

theorem both_ok {n : Int} {p p' z z' : Nat} {D E : List Int} (h : MatOk n n D) (hI : InD D) (h' : MatOk n n E) (hI' : InD E) {v : MV} {V : List Int} {N : Nat} (hN : D.length = N) (hN' : E.length = N) {H : MH} {rw rw' : Bool} (hp : hget H p = some ⟨D.map u64, rw⟩) (hp' : hget H p' = some ⟨E.map u64, rw'⟩)
    (hv : Sl H v V) (hV : InD V) (tau m : Int) (hrows : rowsB V.length n m = true) : ∃ g : Int,
    Spec Tryd.prog 74 [mx n n n p N z, mx n n n p' N z', .agg [v, u64 tau], i64 m] H fun u H' => u = .tup [mx n n n H.length N N, mx n n n (H.length + 1) N N] ∧
      H' = H ++ [some ⟨(rightR n n V tau m (leftR n n V tau m (D, 0))).1.map u64, true⟩, some ⟨(rightR n n V tau m (E, g)).1.map u64, true⟩] := ⟨_, both_okG h hI h' hI' hN hN' hp hp' hv hV tau m hrows⟩
theorem none_spec {n : Int} (hn : 0 < n ∧ n ≤ 1000000) {N : Nat} (hN : n.toNat = N) (H : MH) : Spec Tryd.prog 50 [i64 n] H fun u H' => u = .agg [.slice H.length 0 N N 1, u64 0] ∧ H' = H ++ [some ⟨((List.replicate N 0).set 0 4607182418800017408).map u64, true⟩] := by
  refine Spec.one (q := 1) (v := fun p => .agg [.slice p 0 N N 1, u64 0]) (J := [some ⟨[.slice (H.length + 1) 0 N N 1, u64 0], true⟩, some ⟨((List.replicate N 0).set 0 4607182418800017408).map u64, true⟩]) (closed_u64 _) (fun p => by simp [Cl, Cls']) (fun π p _ => by simp [ren, rens]) rfl ?_
  have hn1 : ¬ n < 0 := by omega
  have hn2 : 0 < n := hn.1
  have ms : msV (.slice 1 8 (some [.int .u64 0]) true) (i64 n) (i64 n) = some (List.replicate N (u64 0), N, N, 1) := by
    simp only [msV]
    rw [if_pos ⟨by omega, Int.le_refl _, by omega, by omega, rfl⟩, Nat.mul_one, replicate_zero, hN]
  have hN1 : (0 < (N : Int)) = True := eq_true (by omega)
  have hN2 : (0 + 1 ≤ (List.replicate N (u64 0)).length) = True := eq_true (by rw [List.length_replicate]; omega)
  refine enterS Tryd.func50 [.cell 2 26] ?_
  repeat' first | (with_reducible (show W _ _ _ _ _); with_reducible refine go2 ?_) | (with_reducible (show W _ _ _ _ _); with_reducible refine sg2 ?_ ?_ <;> intro _) | (with_reducible (show W _ _ _ _ _); with_reducible refine sc2 ?_ ?_ <;> intro _)
  all_goals simp [List.map_set]

theorem great_zero : ∀ (l : List Int), (∀ x ∈ l, x = 0) → ∀ i best at_ : Int, best = 0 → (greatL l i best at_).1 = 0
  | [], _, i, best, at_, h => h
  | b :: l, hz, i, best, at_, h => by
    have hb : b = 0 := hz b (by simp)
    subst hb
    unfold greatL
    rw [if_neg (by decide)]
    split
    · exact great_zero l (fun x hx => hz x (by simp [hx])) _ _ _ (by decide)
    · exact great_zero l (fun x hx => hz x (by simp [hx])) _ _ _ h
theorem power_zero {l : List Int} (h : ∀ x ∈ l, x = 0) : powerM l = (0, false) := by
  unfold powerM greatM
  rw [great_zero l h 0 0 (-1) rfl]
  rfl
def genZ (N : Nat) : List Int := (List.replicate N 0).set 0 4607182418800017408
theorem gen_zero {p c : Nat} {xs : List Int} {H : MH} {rw : Bool} (hp : hget H p = some ⟨xs.map u64, rw⟩) (hlen : 1 < xs.length ∧ xs.length ≤ 1000000) {N : Nat} (hN : xs.length = N) (hNc : N ≤ c) (hfin : ∀ k, k < xs.length → finiteM (xs.getD k 0) = true) (hz : ∀ x ∈ xs.tail, x = 0) :
    Spec Tryd.prog 11 [.slice p 0 N c 1] H fun u H' => u = .tup [.agg [.slice H.length 0 N N 1, u64 0], u64 (xs.getD 0 0), u8 0, i64 0] ∧ H' = H ++ [some ⟨(genZ N).map u64, true⟩] := by
  have hpl := lt_of_hget hp
  have hcell : ∀ i, i < xs.length → (xs.map u64)[i]? = some (u64 (xs.getD i 0)) := fun i hi => by simp [List.getD_eq_getElem?_getD, hi]
  have hv : Sl H (.slice p 0 N c 1) xs := .inr ⟨p, 0, c, _, by rw [hN], hp, fun i hi => by rw [Nat.zero_add]; exact hcell i hi⟩
  have hv1 : Sl H (.slice p 1 (N - 1) (c - 1) 1) xs.tail := .inr ⟨p, 1, c - 1, _, by rw [List.length_tail, hN], hp, fun i hi => by
    rw [List.length_tail] at hi
    rw [Nat.add_comm, hcell (i + 1) (by omega)]
    simp [List.getD_eq_getElem?_getD]⟩
  have hl1 : xs.tail.length ≤ 1000000 := by rw [List.length_tail]; omega
  have hpz := power_zero hz
  have om : ∀ f : Operand → MV, Option.map f none = none := fun _ => _root_.id rfl
  have s1 : (1 ≤ (N : Int)) = True := eq_true (by omega)
  have s2 : (c = 1) = False := eq_false (by omega)
  have s3 : Int.toNat 1 = 1 := _root_.id rfl
  have s4 : ((0 : Int) ≤ 1) = True := eq_true (by decide)
  have hne : ((N : Int) = 0) = False := eq_false (by omega)
  refine Spec.one (q := 1) (v := fun p => .tup [.agg [.slice p 0 N N 1, u64 0], u64 (xs.getD 0 0), u8 0, i64 0]) (J := [some ⟨[.slice (H.length + 1) 0 N N 1, u64 0], true⟩, some ⟨(genZ N).map u64, true⟩]) (closed_u64 _) (fun p => by simp [Cl, Cls']) (fun π p _ => by simp [ren, rens]) rfl ?_
  refine enterS Tryd.func11 [.cell 2 26, .tmp 3, .tmp 4, .tmp 5] ?_
  repeat' first | (with_reducible (show W _ _ _ _ _); with_reducible refine go2 ?_) | (with_reducible (show W _ _ _ _ _); with_reducible refine sg2 ?_ ?_ <;> intro _) | (with_reducible (show W _ _ _ _ _); with_reducible refine sc2 ?_ ?_ <;> intro _) | (with_reducible (show W _ _ (.code (.region 12 _ true) :: _) _ _); with_reducible refine W_draw [(0, []), (1, []), (3, []), (4, []), (5, []), (2, [5]), (6, [5]), (7, []), (8, []), (9, [])] [5] (by kernel_rfl) ?_) | (with_reducible (show W _ _ (.code (.region 23 _ true) :: _) _ _); with_reducible refine W_draw [(0, []), (1, []), (2, []), (3, []), (4, [1]), (5, []), (6, []), (7, []), (8, [])] [1] (by kernel_rfl) ?_)
  refine W_for (fun j ρ H' => ∃ k : Nat, k + j = N ∧ ρ 0 = .slice p 0 N c 1 ∧ ρ 2 = .ptr H.length 0 ∧ ρ 25 = .slice p 0 N c 1 ∧ ρ 26 = i64 (N : Int) ∧ ρ 27 = i64 k ∧ H' = H ++ [some ⟨[.lit (.slice none 0 0), u64 0], true⟩]) N ?_ ?_
  · refine ⟨0, by omega, ?_⟩
    simp [put, args0]
  rintro j ρ H' ⟨k, hk, h0, h2, h25, h26, h27, rfl⟩
  have f3 : ∀ m : Nat, (0 ≤ (m : Int)) = True := fun m => eq_true (by omega)
  have f5 : ∀ m : Nat, (m : Int).toNat = m := fun m => Int.toNat_natCast m
  have f6 : ∀ m : Nat, m * 1 = m := Nat.mul_one
  have f7 : (k : Int) < N → (xs.map u64)[k]? = some (u64 (xs.getD k 0)) := fun h => hcell k (by omega)
  have f8 : (xs.map u64)[0]? = some (u64 (xs.getD 0 0)) := hcell 0 (by omega)
  have f9 : (k : Int) < N → finiteM (xs.getD k 0) = true := fun h => hfin k (by omega)
  have f10 : (0 < (N : Int)) = True := eq_true (by omega)
  repeat' first | (with_reducible (show W _ _ _ _ _); with_reducible refine go2 ?_) | (with_reducible (show W _ _ _ _ _); with_reducible refine sg2 ?_ ?_ <;> intro _) | (with_reducible (show W _ _ _ _ _); with_reducible refine sc2 ?_ ?_ <;> intro _) | (with_reducible (show CallK _ _ _ _ _ _ _ _ _ _ _); with_reducible refine ce2 (finite_spec _ _) ?_) | (with_reducible (show CallK _ _ _ _ _ _ _ _ _ _ _); with_reducible refine ce2 (power_spec (hv1.app _) hl1) ?_) | (with_reducible (show CallK _ _ _ _ _ _ _ _ _ _ _); with_reducible refine ce2 (power_spec (hv.app _) hlen.2) ?_) | (with_reducible (show W _ _ (.code (.region 12 _ true) :: _) _ _); with_reducible refine W_draw [(0, []), (1, []), (3, []), (4, []), (5, []), (2, [5]), (6, [5]), (7, []), (8, []), (9, [])] [5] (by kernel_rfl) ?_) | (with_reducible (show W _ _ (.code (.region 23 _ true) :: _) _ _); with_reducible refine W_draw [(0, []), (1, []), (2, []), (3, []), (4, [1]), (5, []), (6, []), (7, []), (8, [])] [1] (by kernel_rfl) ?_) | ((with_reducible (show CallK _ _ _ _ _ _ _ _ _ _ _); with_reducible refine cm2 (none_spec (n := (N : Int)) (N := N) (by omega) (by omega) _) ?_))
  · exact ⟨j - 1, by omega, k + 1, by omega, by rw [wrap_suc (n := (N : Int)) (by assumption) (by omega)]⟩
  all_goals rfl
end Go.Proofs.YtcikcinkjbbnhaaDoor.M

/- A matrix of Hessenberg's form, reduced. -/
set_option linter.unusedSimpArgs false
set_option linter.unusedVariables false
set_option maxRecDepth 10000
set_option maxHeartbeats 8000000
namespace Go.Proofs.YtcikcinkjbbnhaaDoor.M
open Go Go.Proofs

/-- Two of the new objects are kept, wherever they stand. -/
theorem Spec.twoX {P : Program} {f : FuncId} {args : List MV} {H : MH} {v : Nat → Nat → MV} {cs ds : List MV} (hcs : ∀ c ∈ cs, Cl 0 [] c) (hds : ∀ c ∈ ds, Cl 0 [] c) (hv : ∀ p p', Cl H.length [p, p'] (v p p'))
    (hr : ∀ π p p', H.length ≤ p → H.length ≤ p' → ren π (v p p') = v (π p) (π p'))
    (h : Spec P f args H fun u H' => ∃ p p', u = v p p' ∧ p ≠ p' ∧ H.length ≤ p ∧ H.length ≤ p' ∧ hget H' p = some ⟨cs, true⟩ ∧ hget H' p' = some ⟨ds, true⟩ ∧ ∀ q, q < H.length → H'[q]? = H[q]?) :
    Spec P f args H fun u H' => u = v H.length (H.length + 1) ∧ H' = H ++ [some ⟨cs, true⟩, some ⟨ds, true⟩] := by
  refine Spec.gc h ?_
  rintro u H1 ⟨p, p', rfl, hne, hp, hp', hg, hg', hold⟩
  have hpl := lt_of_hget hg
  have ht : H1.take H.length = H := by
    apply List.ext_getElem?
    intro i
    rw [List.getElem?_take]
    split
    · exact hold i (by assumption)
    · rw [List.getElem?_eq_none (by omega)]
  have he : H1 = H ++ H1.drop H.length := by rw [← ht, List.length_take, Nat.min_eq_left (by omega), List.take_append_drop]
  have hk : keep H.length [p, p'] p = H.length := by
    unfold keep
    rw [if_neg (by omega)]
    simp
  have hk' : keep H.length [p, p'] p' = H.length + 1 := by
    unfold keep
    rw [if_neg (by omega)]
    have : (p == p') = false := by simp; omega
    simp [List.idxOf_cons, this]
  refine ⟨H, H1.drop H.length, [p, p'], he, rfl, by simp; omega, by simp; omega, fun p o ho => .inl ho, ?_, hv _ _, ?_, ?_⟩
  · intro x hx o ho c hc
    simp only [List.mem_cons, List.not_mem_nil, or_false] at hx
    rcases hx with rfl | rfl
    · rw [hg] at ho
      cases ho
      exact cl_more (cl_more (cl_mono (Nat.zero_le H.length) c (hcs c hc)))
    · rw [hg'] at ho
      cases ho
      exact cl_more (cl_more (cl_mono (Nat.zero_le H.length) c (hds c hc)))
  · rw [hr _ _ _ (by omega) (by omega), hk, hk']
  · simp only [List.map_cons, List.map_nil, keptO, hg, hg', Option.map_some]
    congr 3
    · congr 1
      exact (List.map_congr_left fun c hc => ren_free c (hcs c hc)).trans (List.map_id' _)
    · congr 3
      exact (List.map_congr_left fun c hc => ren_free c (hds c hc)).trans (List.map_id' _)

/-- The memory of hess.Reduce: two variables, two results, two matrices. -/
structure Rd (H : MH) (n : Int) (N : Nat) (U E : List Int) (C : MH) (p p' : Nat) : Prop where
  old : ∀ q, q < H.length → C[q]? = H[q]?
  c1 : hget C (H.length + 1) = some ⟨[i64 0, i64 0, i64 0, .lit (.slice none 0 0)], true⟩
  c2 : hget C (H.length + 2) = some ⟨[i64 0, i64 0, i64 0, .lit (.slice none 0 0)], true⟩
  c4 : hget C (H.length + 4) = some ⟨[i64 n, i64 n, i64 n, .slice p 0 N N 1], true⟩
  c6 : hget C (H.length + 6) = some ⟨[i64 n, i64 n, i64 n, .slice p' 0 N N 1], true⟩
  h1 : hget C p = some ⟨U.map u64, true⟩
  h2 : hget C p' = some ⟨E.map u64, true⟩
  ne : p ≠ p'
  l1 : H.length + 2 < p ∧ p ≠ H.length + 4 ∧ p ≠ H.length + 6
  l2 : H.length + 2 < p' ∧ p' ≠ H.length + 4 ∧ p' ≠ H.length + 6
theorem hget_appL {H L : MH} {p : Nat} {o : MO} (h : hget H p = some o) : hget (H ++ L) p = some o := (hget_old (lt_of_hget h)).trans h
theorem Rd.app {H : MH} {n : Int} {N : Nat} {U E : List Int} {C : MH} {p p' : Nat} (h : Rd H n N U E C p p') (L : MH) : Rd H n N U E (C ++ L) p p' :=
  ⟨fun q hq => by have := lt_of_hget h.c1; rw [List.getElem?_append_left (by omega)]; exact h.old q hq, hget_appL h.c1, hget_appL h.c2, hget_appL h.c4, hget_appL h.c6, hget_appL h.h1, hget_appL h.h2, h.ne, h.l1, h.l2⟩
theorem Rd.setq {H : MH} {n : Int} {N : Nat} {U E : List Int} {C : MH} {p p' : Nat} (h : Rd H n N U E C p p') {q : Nat} (x : Option MO) (hq : H.length + 6 < q) (h1 : q ≠ p) (h2 : q ≠ p') : Rd H n N U E (C.set q x) p p' :=
  ⟨fun r hr => by rw [List.getElem?_set_ne (by omega)]; exact h.old r hr, (hget_set_ne (by omega) _).trans h.c1, (hget_set_ne (by omega) _).trans h.c2, (hget_set_ne (by omega) _).trans h.c4, (hget_set_ne (by omega) _).trans h.c6, (hget_set_ne h1 _).trans h.h1, (hget_set_ne h2 _).trans h.h2, h.ne, h.l1, h.l2⟩

/-- A list that grows. -/
def Xs (H C : MH) (p1 p2 : Nat) (col : Nat → Int) (m : Nat) (v : MV) : Prop := (m = 0 ∧ v = .lit (.slice none 0 0)) ∨
  ∃ px c, v = .slice px 0 m c 1 ∧ m ≤ c ∧ hget C px = some ⟨((List.range m).map col).map u64, true⟩ ∧ H.length + 6 < px ∧ px ≠ p1 ∧ px ≠ p2
theorem app_xs {P : Program} {Q : MQ} {H C : MH} {n : Int} {N : Nat} {U E : List Int} {p1 p2 : Nat} (hC : Rd H n N U E C p1 p2) {col : Nat → Int} {m : Nat} {v : MV} (hx : Xs H C p1 p2 col m v) (hm : m ≤ 100) {t : TypeId} (ht : (ty P t).k = .slice 1 8 (some [.int .u64 0]) true)
    {a : Int} (ha : a = col m) {c1 : Nat} {d L l k ρ} (h : ∀ v' C', Rd H n N U E C' p1 p2 → Xs H C' p1 p2 col (m + 1) v' → W P Q (.run l [] :: k) (put ρ d v') C') :
    AppK P Q (appV P #[t, t] v (.slice C.length 0 1 c1 1) (C ++ [some ⟨[u64 a], true⟩])) (C.length + 1) d L l [] k ρ := by
  subst ha
  have hnew : hget (C ++ [some ⟨[u64 (col m)], true⟩]) C.length = some ⟨[u64 (col m)], true⟩ := hget_append_new
  have htl : tailV 1 (.slice C.length 0 1 c1 1) (C ++ [some ⟨[u64 (col m)], true⟩]) = some ([u64 (col m)], 1) := by
    simp [tailV, cellsAt_eq, hnew]
  have hCl := lt_of_hget hC.c6
  have hl1 := lt_of_hget hC.h1
  have hl2 := lt_of_hget hC.h2
  have hat : ∀ (A : MH) (o : MO) (k : Nat), k = A.length → hget (A ++ [some o]) k = some o := fun A o k hk => by subst hk; exact hget_append_new
  rcases hx with ⟨rfl, rfl⟩ | ⟨px, c, rfl, hmc, hpx, h1, h2, h3⟩
  · have : appV P #[t, t] (.lit (.slice none 0 0)) (.slice C.length 0 1 c1 1) (C ++ [some ⟨[u64 (col 0)], true⟩]) = some (some ([u64 (col 0)], 1, 1), C ++ [some ⟨[u64 (col 0)], true⟩] ++ [some ⟨[u64 (col 0)], true⟩]) := by
      refine appV_of ?_
      unfold appV0
      simp [ht, htl, one]
    rw [this]
    simp only [AppK, held_nil, true_and]
    intro c hc
    refine h _ _ ((hC.app _).app _) (.inr ⟨_, c, rfl, hc, ?_, ?_, ?_, ?_⟩)
    · exact hat _ _ _ (by simp)
    all_goals omega
  · have hpo : hget (C ++ [some ⟨[u64 (col m)], true⟩]) px = some ⟨((List.range m).map col).map u64, true⟩ := hget_appL hpx
    have : appV P #[t, t] (.slice px 0 m c 1) (.slice C.length 0 1 c1 1) (C ++ [some ⟨[u64 (col m)], true⟩]) = some (some (((List.range (m + 1)).map col).map u64, m + 1, 1), (C ++ [some (MO.mk [u64 (col m)] true)]).set px none ++ [some ⟨((List.range (m + 1)).map col).map u64, true⟩]) := by
      have hr : ((List.range (m + 1)).map col).map u64 = ((List.range m).map col).map u64 ++ [u64 (col m)] := by simp [List.range_succ]
      rw [hr]
      refine appV_of ?_
      unfold appV0
      simp [ht, htl, one, hpo, show m + 1 ≤ 68719476736 by omega]
    rw [this]
    simp only [AppK, held_nil, true_and]
    intro c hc
    refine h _ _ (((hC.app _).setq _ h1 h2 h3).app _) (.inr ⟨_, c, rfl, hc, ?_, ?_, ?_, ?_⟩)
    · exact hat _ _ _ (by simp)
    all_goals omega

theorem both_zero {n : Int} {p p' z z' : Nat} {D E : List Int} (h : MatOk n n D) (hI : InD D) (h' : MatOk n n E) (hI' : InD E) {v : MV} {V : List Int} {N : Nat} (hN : D.length = N) (hN' : E.length = N) {H : MH} {rw rw' : Bool} (hp : hget H p = some ⟨D.map u64, rw⟩) (hp' : hget H p' = some ⟨E.map u64, rw'⟩)
    (hv : Sl H v V) (hV : InD V) (m : Int) (hrows : rowsB V.length n m = true) :
    Spec Tryd.prog 74 [mx n n n p N z, mx n n n p' N z', .agg [v, u64 0], i64 m] H fun u H' => u = .tup [mx n n n H.length N N, mx n n n (H.length + 1) N N] ∧ H' = H ++ [some ⟨D.map u64, true⟩, some ⟨E.map u64, true⟩] := by
  have hl : ∀ S, leftR n n V 0 m S = S := fun S => if_pos (by decide)
  have hr : ∀ D g, MatOk n n D → (rightR n n V 0 m (D, g)).1 = D := fun D g hD => by
    unfold rightR
    rw [hl]
    exact mturn2 hD
  obtain ⟨g, hs⟩ := both_ok h hI h' hI' hN hN' hp hp' hv hV 0 m hrows
  rw [hl, hr _ _ h, hr _ _ h'] at hs
  exact hs
theorem genZ_len (N : Nat) : (genZ N).length = N := by simp [genZ]
theorem genZ_in (N : Nat) : InD (genZ N) := (InD.rep N).set 0 (by constructor <;> decide)
theorem oneM_in (n : Int) : InD (oneM n) := by
  unfold oneM
  generalize n.toNat = m
  induction m with
  | zero => exact InD.rep _
  | succ m ih => exact InD.setm ih _ _ _ _ _ (by constructor <;> decide)
theorem genZ_sl (C : MH) (m : Nat) (L : MH) : Sl (C ++ some ⟨(genZ m).map u64, true⟩ :: L) (.slice C.length 0 m m 1) (genZ m) := by
  refine .inr ⟨C.length, 0, m, _, by rw [genZ_len], by unfold hget; simp; rfl, fun i hi => ?_⟩
  simp [List.getD_eq_getElem?_getD, hi]

theorem set_same {r c : Int} {p z : Nat} {D : List Int} (h : MatOk r c D) (i k b : Int) (hs : setM r c c D i k b = D) {H : MH} (hp : hget H p = some ⟨D.map u64, true⟩) {n : Nat} (hn : D.length = n) : Spec Tryd.prog 67 [mx r c c p n z, i64 i, i64 k, u64 b] H fun v H' => v = .tup [] ∧ H' = H := by
  have := set_ok (z := z) h i k b hp hn
  rw [hs, hset_id hp] at this
  exact this
theorem setM_at {r c : Int} {D : List Int} (h : MatOk r c D) {i k : Nat} (hi : (i : Int) < r) (hk : (k : Int) < c) {b : Int} (hb : b = atM r c c D i k) : setM r c c D i k b = D := by
  subst hb
  unfold setM atM
  split
  · rename_i hin
    apply List.ext_getElem?
    intro t
    rw [List.getElem?_set]
    split
    · rename_i e
      subst e
      split
      · rename_i hl
        simp [List.getD_eq_getElem?_getD, hl]
      · rename_i hl
        rw [List.getElem?_eq_none (by omega)]
    · rfl
  · rfl
theorem reduce_spec {n : Int} {p z : Nat} {D : List Int} (h : MatOk n n D) (hI : InD D) (hn8 : n ≤ 8) {N : Nat} (hN : D.length = N) {H : MH} {rw : Bool} (hp : hget H p = some ⟨D.map u64, rw⟩) (hfin : finD D = true)
    (hUz : ∀ i k : Nat, (i : Int) < n → k + 2 ≤ i → atM n n n (unitD n n D) i k = 0) (hUf : ∀ i k : Nat, (i : Int) < n → (k : Int) < n → finiteM (atM n n n (unitD n n D) i k) = true) :
    Spec Tryd.prog 35 [mx n n n p N z] H fun u H' => u = .tup [mx n n n H.length N N, mx n n n (H.length + 1) N N, i64 (unitE n n D), i64 0] ∧ H' = H ++ [some ⟨(unitD n n D).map u64, true⟩, some ⟨(oneM n).map u64, true⟩] := by
  have hpl := lt_of_hget hp
  have hn : 0 ≤ n ∧ n ≤ 4096 := ⟨h.r0, h.r1⟩
  have hU := unitD_ok h
  have hUN : (unitD n n D).length = N := (unitD_len n n D).trans hN
  have hNN : (n * n).toNat = N := h.len.symm.trans hN
  have hE := oneM_ok hn
  have hEN : (oneM n).length = N := hE.len.trans hNN
  have hone : ∀ H : MH, Spec Tryd.prog 45 [i64 n] H fun v H' => v = mx n n n H.length N N ∧ H' = H ++ [some ⟨(oneM n).map u64, true⟩] := fun H => by have := one_spec hn H; rw [hNN] at this; exact this
  refine Spec.twoX (v := fun p p' => .tup [mx n n n p N N, mx n n n p' N N, i64 (unitE n n D), i64 0]) (closed_u64 _) (closed_u64 _) (fun p p' => by simp [Cl, Cls']) (fun π p p' _ _ => by simp [ren, rens]) ?_
  refine enterS Tryd.func35 [.cell 2 56, .cell 3 56, .tmp 4, .tmp 5] ?_
  repeat' first | (with_reducible (show W _ _ _ _ _); with_reducible refine go2 ?_) | (with_reducible (show W _ _ _ _ _); with_reducible refine sg2 ?_ ?_ <;> intro _) | (with_reducible (show W _ _ _ _ _); with_reducible refine sc2 ?_ ?_ <;> intro _) | (with_reducible (show CallK _ _ _ _ _ _ _ _ _ _ _); with_reducible refine ce2 (check_ok h hN _) ?_) | (with_reducible (show CallK _ _ _ _ _ _ _ _ _ _ _); with_reducible refine ce2 (finite_mspec h hN ((hget_old hpl).trans hp)) ?_) | (with_reducible (show W _ _ (.code (.region 24 _ true) :: _) _ _); with_reducible refine W_draw [(0, []), (1, []), (2, []), (3, [1]), (4, []), (5, []), (6, [])] [1] (by kernel_rfl) ?_) | ((with_reducible (show CallK _ _ _ _ _ _ _ _ _ _ _); first | (with_reducible refine cm2 (unit_mspec h hI hN ((hget_old hpl).trans hp)) ?_) | (with_reducible refine cm2 (hone _) ?_)))
  refine W_for (fun j ρ C => ∃ (k p1 p2 : Nat), k + j = n.toNat ∧ ρ 2 = .ptr (H.length + 1) 0 ∧ ρ 3 = .ptr (H.length + 2) 0 ∧ ρ 6 = .ptr (H.length + 4) 0 ∧ ρ 7 = i64 (unitE n n D) ∧ ρ 8 = .ptr (H.length + 6) 0 ∧ ρ 9 = i64 k ∧ Rd H n N (unitD n n D) (oneM n) C p1 p2) n.toNat ?_ ?_
  · refine ⟨0, H.length + 3, H.length + 5, by omega, ?_⟩
    have hs : ∀ L : MH, ∀ q, q < H.length → (H ++ L)[q]? = H[q]? := fun L q hq => List.getElem?_append_left hq
    simp [put, args0]
    exact ⟨hs _, hget_newL rfl, hget_newL rfl, hget_newL rfl, hget_newL rfl, hget_newL rfl, hget_newL rfl, by omega, by omega, by omega⟩
  rintro j ρ C ⟨k, p1, p2, hk, r2, r3, r6, r7, r8, r9, hC⟩
  have c4 := hC.c4
  have c6 := hC.c6
  have c1 := hC.c1
  have c2 := hC.c2
  have hCl := lt_of_hget hC.c6
  have s16 : ∀ x, hget (C.set (H.length + 1) x) (H.length + 6) = some ⟨[i64 n, i64 n, i64 n, .slice p2 0 N N 1], true⟩ := fun x => (hget_set_ne (by omega) _).trans c6
  have s12 : ∀ x, hget (C.set (H.length + 1) x) (H.length + 2) = some ⟨[i64 0, i64 0, i64 0, .lit (.slice none 0 0)], true⟩ := fun x => (hget_set_ne (by omega) _).trans c2
  have s1 : ∀ x y, hget ((C.set (H.length + 1) x).set (H.length + 2) y) (H.length + 1) = x := fun x y => (hget_set_ne (by omega) _).trans (hget_set_same (by omega) _)
  have s2 : ∀ x y, hget ((C.set (H.length + 1) x).set (H.length + 2) y) (H.length + 2) = y := fun x y => hget_set_same (by rw [List.length_set]; omega) _
  have w2 : (k : Int) + 2 ≤ 100 → IntKind.i64.wrap ((k : Int) + 2) = (k : Int) + 2 := fun h => wrap_i64 (by omega)
  have w1 : (k : Int) + 2 ≤ 100 → IntKind.i64.wrap ((k : Int) + 1) = ((k + 1 : Nat) : Int) := fun h => by rw [wrap_i64 (by omega)]; omega
  have kb : (k : Int) + 2 ≤ 100 := by omega
  have e2 := w2 kb
  have e1 := w1 kb
  clear w2 w1
  repeat' first | (with_reducible (show W _ _ _ _ _); with_reducible refine go2 ?_) | (with_reducible (show W _ _ _ _ _); with_reducible refine sg2 ?_ ?_ <;> intro _) | (with_reducible (show W _ _ _ _ _); with_reducible refine sc2 ?_ ?_ <;> intro _) | (with_reducible (show W _ _ (.code (.region 24 _ true) :: _) _ _); with_reducible refine W_draw [(0, []), (1, []), (2, []), (3, [1]), (4, []), (5, []), (6, [])] [1] (by kernel_rfl) ?_)
  · rename_i hlt
    refine W_for (fun j' ρ C => ∃ m : Nat, k + 1 + m + j' = n.toNat ∧ ρ 2 = .ptr (H.length + 1) 0 ∧ ρ 3 = .ptr (H.length + 2) 0 ∧ ρ 6 = .ptr (H.length + 4) 0 ∧ ρ 7 = i64 (unitE n n D) ∧ ρ 8 = .ptr (H.length + 6) 0 ∧ ρ 9 = i64 k ∧ ρ 11 = i64 ((k + 1 + m : Nat) : Int) ∧
      Rd H n N (unitD n n D) (oneM n) C p1 p2 ∧ Xs H C p1 p2 (fun t => atM n n n (unitD n n D) ((k + 1 + t : Nat) : Int) k) m (ρ 10)) (n.toNat - (k + 1)) ?_ ?_
    · refine ⟨0, by omega, ?_⟩
      simp [put, *, Xs]
    clear r2 r3 r6 r7 r8 r9 c4 c6 hC c1 c2 hCl s16 s12 s1 s2
    rintro j' ρ' C ⟨m, hm, r2, r3, r6, r7, r8, r9, r11, hC, hx⟩
    have c4 := hC.c4
    have c6 := hC.c6
    have hp1 := hC.h1
    have hbs : ∀ x : Int, bsV (.slice 1 8 (some [.int .u64 0]) true) 1 [(0, u64 x)] = some ([u64 x], 1) := fun x => _root_.id rfl
    have hk22 : (ty Tryd.prog 22).k = .slice 1 8 (some [.int .u64 0]) true := by rw [ty_22]
    have e3 : IntKind.i64.wrap (((k + 1 + m : Nat) : Int) + 1) = ((k + 1 + (m + 1) : Nat) : Int) := by rw [wrap_i64 (by omega)]; omega
    repeat' first | (with_reducible (show W _ _ _ _ _); with_reducible refine go2 ?_) | (with_reducible (show W _ _ _ _ _); with_reducible refine sg2 ?_ ?_ <;> intro _) | (with_reducible (show W _ _ _ _ _); with_reducible refine sc2 ?_ ?_ <;> intro _) | (with_reducible (show CallK _ _ _ _ _ _ _ _ _ _ _); with_reducible refine ce2 (at_ok hU _ _ hp1 hUN) ?_) | (with_reducible (show W _ _ (.code (.region 24 _ true) :: _) _ _); with_reducible refine W_draw [(0, []), (1, []), (2, []), (3, [1]), (4, []), (5, []), (6, [])] [1] (by kernel_rfl) ?_) | ((with_reducible (show AppK _ _ _ _ _ _ _ _ _ _); with_reducible refine app_xs hC hx (by omega) hk22 rfl ?_; rintro v' C' hC' hx'))
    · exact ⟨j' - 1, by omega, m + 1, by omega, rfl, hx'⟩
    have hm2 : k + 1 + m = n.toNat := by omega
    rcases hx with ⟨rfl, _⟩ | ⟨px, c, r10, hmc, hpx, l1, l2, l3⟩
    · omega
    have hxl : ((List.range m).map fun t => atM n n n (unitD n n D) ((k + 1 + t : Nat) : Int) k).length = m := by simp
    have hxg : ∀ t, t < m → ((List.range m).map fun t => atM n n n (unitD n n D) ((k + 1 + t : Nat) : Int) k).getD t 0 = atM n n n (unitD n n D) ((k + 1 + t : Nat) : Int) k := fun t ht => by simp [List.getD_eq_getElem?_getD, ht]
    have hx0 := hxg 0 (by omega)
    have hgen := gen_zero hpx (by rw [hxl]; omega) hxl hmc (fun t ht => by rw [hxl] at ht; rw [hxg t ht]; exact hUf _ _ (by omega) (by omega)) (fun x hx => by
      obtain ⟨i, hi, rfl⟩ := List.getElem_of_mem hx
      rw [List.length_tail, hxl] at hi
      simp
      exact hUz (k + 1 + (i + 1)) k (by omega) (by omega))
    rw [hx0] at hgen
    have hrows : rowsB (genZ m).length n ((k + 1 : Nat) : Int) = true := by
      rw [genZ_len]
      simp only [rowsB, Bool.and_eq_true, decide_eq_true_eq]
      rw [wrap_i64 (by omega)]
      omega
    have hUI := unitD_in (r := n) (c := n) hI
    have hEI := oneM_in n
    have hp2 := hC.h2
    have hCl := lt_of_hget hC.c6
    have hCl4 := lt_of_hget hC.c4
    have t46 : ∀ x, hget (C.set (H.length + 4) x) (H.length + 6) = some ⟨[i64 n, i64 n, i64 n, .slice p2 0 N N 1], true⟩ := fun x => (hget_set_ne (by omega) _).trans c6
    have t4 : ∀ x y L, hget ((C.set (H.length + 4) x).set (H.length + 6) y ++ L) (H.length + 4) = x := fun x y L => by
      rw [hget_old (by simp only [List.length_set]; omega), hget_set_ne (by omega), hget_set_same (by omega)]
    have t6 : ∀ x y L, hget ((C.set (H.length + 4) x).set (H.length + 6) y ++ L) (H.length + 6) = y := fun x y L => by
      rw [hget_old (by simp only [List.length_set]; omega), hget_set_same (by rw [List.length_set]; omega)]
    have tU : ∀ x y a b o L, hget ((C.set (H.length + 4) x).set (H.length + 6) y ++ a :: b :: some o :: L) (C.length + 2) = some o := fun x y a b o L => by
      unfold hget
      rw [List.getElem?_append_right (by simp)]
      simp
    have tE : ∀ x y a b c o L, hget ((C.set (H.length + 4) x).set (H.length + 6) y ++ a :: b :: c :: some o :: L) (C.length + 3) = some o := fun x y a b c o L => by
      unfold hget
      rw [List.getElem?_append_right (by simp)]
      simp
    have hset1 := setM_at (b := atM n n n (unitD n n D) ((k + 1 : Nat) : Int) k) hU (i := k + 1) (k := k) (by omega) (by omega) rfl
    have h23 : C.length + 2 + 1 = C.length + 3 := rfl
    rw [r10]
    repeat' first | (with_reducible (show W _ _ _ _ _); with_reducible refine go2 ?_) | (with_reducible (show W _ _ _ _ _); with_reducible refine sg2 ?_ ?_ <;> intro _) | (with_reducible (show W _ _ _ _ _); with_reducible refine sc2 ?_ ?_ <;> intro _) | (with_reducible (show W _ _ (.code (.region 24 _ true) :: _) _ _); with_reducible refine W_draw [(0, []), (1, []), (2, []), (3, [1]), (4, []), (5, []), (6, [])] [1] (by kernel_rfl) ?_) | ((with_reducible (show CallK _ _ _ _ _ _ _ _ _ _ _); first | (with_reducible refine cm2 hgen ?_) | (with_reducible refine cm2 (both_zero hU hUI hE hEI hUN hEN (hget_appL hp1) (hget_appL hp2) (genZ_sl C m _) (genZ_in m) _ hrows) ?_) | (with_reducible refine cm2 (set_same hU _ _ _ hset1 (tU _ _ _ _ _ _) hUN) ?_)))
    have hC2 : ∀ a b : MO, Rd H n N (unitD n n D) (oneM n) ((C.set (H.length + 4) (some ⟨[i64 n, i64 n, i64 n, .slice (C.length + 2) 0 N N 1], true⟩)).set (H.length + 6) (some ⟨[i64 n, i64 n, i64 n, .slice (C.length + 3) 0 N N 1], true⟩) ++ [some a, some b, some ⟨(unitD n n D).map u64, true⟩, some ⟨(oneM n).map u64, true⟩]) (C.length + 2) (C.length + 3) := fun a b => by
      refine ⟨fun q hq => ?_, ?_, ?_, t4 _ _ _, t6 _ _ _, tU _ _ _ _ _ _, tE _ _ _ _ _ _ _, by omega, by omega, by omega⟩
      · rw [List.getElem?_append_left (by simp only [List.length_set]; omega), List.getElem?_set_ne (by omega), List.getElem?_set_ne (by omega)]
        exact hC.old q hq
      · rw [hget_old (by simp only [List.length_set]; omega), hget_set_ne (by omega), hget_set_ne (by omega)]
        exact hC.c1
      · rw [hget_old (by simp only [List.length_set]; omega), hget_set_ne (by omega), hget_set_ne (by omega)]
        exact hC.c2
    refine W_for (fun j' ρ C' => ∃ m : Nat, k + 2 + m + j' = n.toNat ∧ ρ 2 = .ptr (H.length + 1) 0 ∧ ρ 3 = .ptr (H.length + 2) 0 ∧ ρ 6 = .ptr (H.length + 4) 0 ∧ ρ 7 = i64 (unitE n n D) ∧ ρ 8 = .ptr (H.length + 6) 0 ∧ ρ 9 = i64 k ∧ ρ 16 = i64 ((k + 2 + m : Nat) : Int) ∧
      Rd H n N (unitD n n D) (oneM n) C' (C.length + 2) (C.length + 3)) (n.toNat - (k + 2)) ?_ ?_
    · refine ⟨0, by omega, ?_⟩
      simp [put, *]
    clear r2 r3 r6 r7 r8 r9 c4 c6 hC r10 r11 t46 t4 t6 tU tE hx0 hgen hrows hpx hC2
    generalize C.length + 2 = p1, C.length + 3 = p2
    rintro j'' ρ'' C' ⟨m, hm, r2, r3, r6, r7, r8, r9, r16, hC⟩
    have c4 := hC.c4
    have hp1 := hC.h1
    have e4 : IntKind.i64.wrap (((k + 2 + m : Nat) : Int) + 1) = ((k + 2 + (m + 1) : Nat) : Int) := by rw [wrap_i64 (by omega)]; omega
    have hset2 : ((k + 2 + m : Nat) : Int) < n → setM n n n (unitD n n D) ((k + 2 + m : Nat) : Int) k 0 = unitD n n D := fun hl => setM_at hU (i := k + 2 + m) (k := k) (by omega) (by omega) (hUz (k + 2 + m) k (by omega) (by omega)).symm
    repeat' first | (with_reducible (show W _ _ _ _ _); with_reducible refine go2 ?_) | (with_reducible (show W _ _ _ _ _); with_reducible refine sg2 ?_ ?_ <;> intro _) | (with_reducible (show W _ _ _ _ _); with_reducible refine sc2 ?_ ?_ <;> intro _) | (with_reducible (show W _ _ (.code (.region 24 _ true) :: _) _ _); with_reducible refine W_draw [(0, []), (1, []), (2, []), (3, [1]), (4, []), (5, []), (6, [])] [1] (by kernel_rfl) ?_) | ((with_reducible (show CallK _ _ _ _ _ _ _ _ _ _ _); with_reducible refine cm2 (set_same hU _ _ _ (hset2 (by assumption)) hp1 hUN) ?_))
    · exact ⟨j'' - 1, by omega, m + 1, by omega, rfl⟩
    · exact ⟨j - 1, by omega, k + 1, p1, p2, by omega, rfl, hC⟩
  · have l1 := hC.l1
    have l2 := hC.l2
    refine ⟨p1, p2, rfl, hC.ne, by omega, by omega, ?_, ?_, ?_⟩
    · rw [hget_set_ne (by omega), hget_set_ne (by omega)]; exact hC.h1
    · rw [hget_set_ne (by omega), hget_set_ne (by omega)]; exact hC.h2
    · intro q hq
      rw [List.getElem?_set_ne (by omega), List.getElem?_set_ne (by omega)]
      exact hC.old q hq
end Go.Proofs.YtcikcinkjbbnhaaDoor.M
