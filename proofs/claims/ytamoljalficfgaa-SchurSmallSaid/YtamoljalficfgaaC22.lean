/- What the law HouseSteps reckons is what a reflection of the rows reckons. -/
import Derived.Test.YtamoljalficfgaaC21
import Derived.Laws.BitsAllLaws
import Derived.Laws.BitsLemmas
import Derived.Laws.MathBits
import Derived.RowKit
set_option linter.unusedSimpArgs false
set_option linter.unusedVariables false
set_option maxRecDepth 10000
set_option maxHeartbeats 4000000
namespace Go.Proofs.Ytamoljalficfgaa.M
open Go Go.Proofs

theorem place_inj {C i k i' k' : Nat} (hk : k < C) (hk' : k' < C) (h : i * C + k = i' * C + k') : i = i' ∧ k = k' := by
  have h1 : (i * C + k) / C = i := by rw [Nat.mul_comm, Nat.mul_add_div (by omega), Nat.div_eq_of_lt hk]; omega
  have h2 : (i' * C + k') / C = i' := by rw [Nat.mul_comm, Nat.mul_add_div (by omega), Nat.div_eq_of_lt hk']; omega
  have e : i = i' := by rw [← h1, ← h2, h]
  subst e
  exact ⟨rfl, by omega⟩
theorem at_set_ne {r c : Int} {D : List Int} (h : MatOk r c D) {i k i' k' : Nat} (hi : (i : Int) < r) (hk : (k : Int) < c) (hi' : (i' : Int) < r) (hk' : (k' : Int) < c) (hne : i ≠ i' ∨ k ≠ k') (b : Int) :
    atM r c c (setM r c c D i k b) i' k' = atM r c c D i' k' := by
  rw [atM_in' (h.set _ _ _) hi' hk', atM_in' h hi' hk', setM_in' h hi hk]
  have : i * c.toNat + k ≠ i' * c.toNat + k' := fun he => by
    have := place_inj (by omega) (by omega) he
    omega
  rw [List.getD_eq_getElem?_getD, List.getD_eq_getElem?_getD, List.getElem?_set_ne this]
theorem iter_congr {α : Type} {f g : Nat → α → α} {a : α} {n : Nat} (I : Nat → α → Prop) (h0 : I 0 a) (hs : ∀ k, k < n → I k (iter f k a) → f k (iter f k a) = g k (iter f k a) ∧ I (k + 1) (f k (iter f k a))) : iter f n a = iter g n a ∧ I n (iter f n a) := by
  have key : ∀ k, k ≤ n → iter f k a = iter g k a ∧ I k (iter f k a) := by
    intro k
    induction k with
    | zero => intro _; exact ⟨rfl, h0⟩
    | succ k ih =>
      intro hk
      obtain ⟨e, hI⟩ := ih (by omega)
      obtain ⟨e2, hI2⟩ := hs k (by omega) hI
      exact ⟨by simp only [iter]; rw [e2, e], hI2⟩
  exact key n (Nat.le_refl n)

/-- The law's way: what is read is the matrix as it was. -/
def putW (r c : Int) (V : List Int) (m : Int) (D : List Int) (k : Nat) (t : Int) (S : List Int × Int) (n : Nat) : List Int × Int :=
  iter (fun i S => (setM r c c S.1 (m + i) k (addM (atM r c c D (m + i) k) (flipM (mulM (V.getD i 0) t).1)).1, bits .or .u8 (bits .or .u8 S.2 (mulM (V.getD i 0) t).2) (addM (atM r c c D (m + i) k) (flipM (mulM (V.getD i 0) t).1)).2)) n S
theorem putW_succ (r c : Int) (V : List Int) (m : Int) (D : List Int) (k : Nat) (t : Int) (S : List Int × Int) (n : Nat) : putW r c V m D k t S (n + 1) = (setM r c c (putW r c V m D k t S n).1 (m + n) k (addM (atM r c c D (m + n) k) (flipM (mulM (V.getD n 0) t).1)).1,
  bits .or .u8 (bits .or .u8 (putW r c V m D k t S n).2 (mulM (V.getD n 0) t).2) (addM (atM r c c D (m + n) k) (flipM (mulM (V.getD n 0) t).1)).2) := rfl
def colW (r c : Int) (V : List Int) (tau m : Int) (D : List Int) (k : Nat) (S : List Int × Int) : List Int × Int :=
  putW r c V m D k (mulM tau (sumS V (fun i => atM r c c D (m + i) k) S.2 V.length).1).1
    (S.1, bits .or .u8 (sumS V (fun i => atM r c c D (m + i) k) S.2 V.length).2 (mulM tau (sumS V (fun i => atM r c c D (m + i) k) S.2 V.length).1).2) V.length
def wantL (r c : Int) (V : List Int) (tau m : Int) (D : List Int) (n : Nat) (S : List Int × Int) : List Int × Int := iter (colW r c V tau m D) n S

theorem sumS_succ (V : List Int) (x : Nat → Int) (g : Int) (n : Nat) : sumS V x g (n + 1) = ((addM (sumS V x g n).1 (mulM (V.getD n 0) (x n)).1).1, bits .or .u8 (bits .or .u8 (sumS V x g n).2 (mulM (V.getD n 0) (x n)).2) (addM (sumS V x g n).1 (mulM (V.getD n 0) (x n)).1).2) := rfl
theorem sumS_zero (V : List Int) (x : Nat → Int) (g : Int) : sumS V x g 0 = (0, g) := rfl
theorem sumS_congr {V : List Int} {x y : Nat → Int} (g : Int) : ∀ n, (∀ i, i < n → x i = y i) → sumS V x g n = sumS V y g n
  | 0, _ => by rw [sumS_zero, sumS_zero]
  | n + 1, h => by
    have ih := sumS_congr (V := V) (x := x) (y := y) g n (fun i hi => h i (by omega))
    rw [sumS_succ, sumS_succ, ih, h n (by omega)]

theorem put_eq {r c : Int} {V : List Int} {m : Int} {D : List Int} {k : Nat} {t : Int} {S : List Int × Int} (hm : 0 ≤ m ∧ (V.length : Int) ≤ r ∧ m ≤ r - V.length) (hk : (k : Int) < c) (hS : MatOk r c S.1)
    (hcol : ∀ i : Nat, (i : Int) < r → atM r c c S.1 i k = atM r c c D i k) :
    putS r c V m k t S V.length = putW r c V m D k t S V.length ∧ ∀ i k' : Nat, (i : Int) < r → (k' : Int) < c → k' ≠ k → atM r c c (putS r c V m k t S V.length).1 i k' = atM r c c S.1 i k' := by
  obtain ⟨mn, rfl⟩ : ∃ a : Nat, m = a := ⟨m.toNat, by omega⟩
  have key := iter_congr (f := fun i S => (setM r c c S.1 ((mn : Int) + (i : Nat)) k (addM (atM r c c S.1 ((mn : Int) + (i : Nat)) k) (flipM (mulM (V.getD i 0) t).1)).1, bits .or .u8 (bits .or .u8 S.2 (mulM (V.getD i 0) t).2) (addM (atM r c c S.1 ((mn : Int) + (i : Nat)) k) (flipM (mulM (V.getD i 0) t).1)).2))
    (g := fun i S => (setM r c c S.1 ((mn : Int) + (i : Nat)) k (addM (atM r c c D ((mn : Int) + (i : Nat)) k) (flipM (mulM (V.getD i 0) t).1)).1, bits .or .u8 (bits .or .u8 S.2 (mulM (V.getD i 0) t).2) (addM (atM r c c D ((mn : Int) + (i : Nat)) k) (flipM (mulM (V.getD i 0) t).1)).2)) (a := S) (n := V.length)
    (fun i T => MatOk r c T.1 ∧ (∀ i' : Nat, mn + i ≤ i' → (i' : Int) < r → atM r c c T.1 i' k = atM r c c D i' k) ∧ ∀ i' k' : Nat, (i' : Int) < r → (k' : Int) < c → k' ≠ k → atM r c c T.1 i' k' = atM r c c S.1 i' k')
    ⟨hS, fun i' _ hi' => hcol i' hi', fun _ _ _ _ _ => rfl⟩ ?_
  · exact ⟨key.1, key.2.2.2⟩
  intro i hi ⟨ok, h1, h2⟩
  generalize iter (fun (i : Nat) (S : List Int × Int) => (setM r c c S.1 ((mn : Int) + (i : Nat)) k (addM (atM r c c S.1 ((mn : Int) + (i : Nat)) k) (flipM (mulM (V.getD i 0) t).1)).1, bits .or .u8 (bits .or .u8 S.2 (mulM (V.getD i 0) t).2) (addM (atM r c c S.1 ((mn : Int) + (i : Nat)) k) (flipM (mulM (V.getD i 0) t).1)).2)) i S = T at ok h1 h2 ⊢
  have e : ((mn : Int) + (i : Nat)) = ((mn + i : Nat) : Int) := by omega
  have hir : ((mn + i : Nat) : Int) < r := by omega
  have hx := h1 (mn + i) (Nat.le_refl _) hir
  dsimp only
  rw [e, hx]
  refine ⟨rfl, ok.set _ _ _, fun i' hi' hr' => ?_, fun i' k' hr' hk' hne => ?_⟩
  · rw [at_set_ne ok hir hk hr' hk (.inl (by omega))]
    exact h1 i' (by omega) hr'
  · rw [at_set_ne ok hir hk hr' hk' (.inr (fun h => hne h.symm))]
    exact h2 i' k' hr' hk' hne
theorem left_want {r c : Int} {V : List Int} {tau m : Int} {D : List Int} {g : Int} (hm : 0 ≤ m ∧ (V.length : Int) ≤ r ∧ m ≤ r - V.length) (h : MatOk r c D) : leftS r c V tau m c.toNat (D, g) = wantL r c V tau m D c.toNat (D, g) := by
  have key := iter_congr (f := colS r c V tau m) (g := colW r c V tau m D) (a := (D, g)) (n := c.toNat)
    (fun k S => MatOk r c S.1 ∧ ∀ i k' : Nat, (i : Int) < r → k ≤ k' → (k' : Int) < c → atM r c c S.1 i k' = atM r c c D i k') ⟨h, fun _ _ _ _ _ => rfl⟩ ?_
  · exact key.1
  intro k hk ⟨ok, hat⟩
  generalize iter (colS r c V tau m) k (D, g) = S at ok hat ⊢
  have hkc : (k : Int) < c := by omega
  have hsum : sumS V (fun i => atM r c c S.1 (m + i) k) S.2 V.length = sumS V (fun i => atM r c c D (m + i) k) S.2 V.length := by
    refine sumS_congr S.2 V.length fun i hi => ?_
    have e : m + (i : Int) = ((m.toNat + i : Nat) : Int) := by omega
    rw [e]
    exact hat _ k (by omega) (Nat.le_refl k) hkc
  have hp := fun t g' => put_eq (V := V) (m := m) (D := D) (k := k) (t := t) (S := (S.1, g')) hm hkc ok (fun i hi => hat i k hi (Nat.le_refl k) hkc)
  refine ⟨?_, ?_, fun i k' hi hk' hkc' => ?_⟩
  · unfold colS colW
    rw [hsum]
    exact (hp _ _).1
  · unfold colS
    have hpo : ∀ t g' n, MatOk r c (putS r c V m k t (S.1, g') n).1 := by
      intro t g' n
      induction n with
      | zero => exact ok
      | succ n ih => exact ih.set _ _ _
    exact hpo _ _ _
  · unfold colS
    rw [(hp _ _).2 i k' hi hkc' (by omega)]
    exact hat i k' hi (by omega) hkc'

theorem gen_congr {r c : Int} (hr : 0 ≤ r) (hc : 0 ≤ c) {f g : Nat → Nat → Int} (h : ∀ i k : Nat, (i : Int) < r → (k : Int) < c → f i k = g i k) : genM r c f = genM r c g := by
  unfold genM
  refine List.map_congr_left fun t ht => ?_
  have ht := List.mem_range.1 ht
  rw [Int.toNat_mul hr hc] at ht
  have hc0 : 0 < c.toNat := by
    rcases Nat.eq_zero_or_pos c.toNat with h0 | h0
    · rw [h0] at ht; omega
    · exact h0
  have h1 : t / c.toNat < r.toNat := by rw [Nat.div_lt_iff_lt_mul hc0]; exact ht
  have h2 : t % c.toNat < c.toNat := Nat.mod_lt _ hc0
  refine h _ _ ?_ ?_
  · have := Int.ofNat_lt.2 h1; rw [Int.toNat_of_nonneg hr] at this; exact this
  · have := Int.ofNat_lt.2 h2; rw [Int.toNat_of_nonneg hc] at this; exact this
theorem mturn2 {r c : Int} {D : List Int} (h : MatOk r c D) : mturnM c r (mturnM r c D) = D := by
  have e : mturnM c r (mturnM r c D) = genM r c (fun i k => atM r c c D i k) := by
    refine gen_congr h.r0 h.c0 fun i k hi hk => ?_
    have ht := mturn_ok h
    rw [atM_in' ht hk hi]
    exact genM_getD h.c0 h.r0 (fun i k => atM r c c D k i) hk hi
  rw [e, gen_at h]
theorem and_2047 {a : Int} (h : 0 ≤ a) (h' : a < 18446744073709551616) : bits .and .u64 a 2047 = a % 2048 := by go_bits2
theorem and_52 {a : Int} (h : 0 ≤ a) (h' : a < 18446744073709551616) : bits .and .u64 a 4503599627370495 = a % 4503599627370496 := by go_bits2
theorem andNot_63 {a : Int} (h : 0 ≤ a) (h' : a < 18446744073709551616) : bits .andNot .u64 a 9223372036854775808 = a % 9223372036854775808 := by
  rw [Go.u64_andNot a 9223372036854775808 h h' (by decide) (by decide)]
  have e2 : 18446744073709551615 - (9223372036854775808 : Int).toNat = 2 ^ 63 - 1 := by decide
  rw [e2, Nat.and_two_pow_sub_one_eq_mod]
  omega
theorem expM_eq {b : Int} (h : InU b) : expM b = b / 4503599627370496 % 2048 := by
  have hs : shrV .u64 b 52 = b / 4503599627370496 := by
    unfold shrV
    have : min (52 : Int).toNat IntKind.u64.bits = 52 := by decide
    rw [this, Int.fdiv_eq_ediv_of_nonneg _ (by decide)]
    rfl
  have h1 := h.1
  have h2 := h.2
  unfold expM
  rw [hs, and_2047 (by omega) (by omega), wrap_i64 (by omega)]
theorem fracM_eq {b : Int} (h : InU b) : fracM b = b % 4503599627370496 := and_52 h.1 h.2
theorem absM_eq {b : Int} (h : InU b) : absM b = b % 9223372036854775808 := andNot_63 h.1 h.2
theorem kind_zero {b : Int} (h : InU b) : kindM b = 1 ↔ absM b = 0 := by
  rw [absM_eq h]
  unfold kindM
  rw [expM_eq h, fracM_eq h]
  have h1 := h.1
  have h2 := h.2
  constructor
  · intro hk
    split at hk
    · split at hk
      · omega
      · omega
    · split at hk
      · omega
      · split at hk <;> omega
  · intro hz
    rw [if_pos (by omega), if_pos (by omega)]
end Go.Proofs.Ytamoljalficfgaa.M
