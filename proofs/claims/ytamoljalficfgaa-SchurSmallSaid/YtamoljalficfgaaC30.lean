/- Rounding what is not great is finite; a matrix divided by its greatest number is. -/
import Derived.Test.YtamoljalficfgaaC28
set_option linter.unusedSimpArgs false
set_option linter.unusedVariables false
set_option maxRecDepth 10000
set_option maxHeartbeats 4000000
namespace Go.Proofs.Ytamoljalficfgaa.M
open Go Go.Proofs

theorem or_join {x y : Int} (hx0 : 0 ≤ x) (hx : x % 4503599627370496 = 0) (hx1 : x < 18446744073709551616) (hy0 : 0 ≤ y) (hy : y < 4503599627370496) : bits .or .u64 x y = x + y := by
  rw [Go.u64_or x y hx0 hx1 hy0 (by omega)]
  have e : x.toNat = 2 ^ 52 * (x.toNat / 2 ^ 52) := by omega
  have := Nat.two_pow_add_eq_or_of_lt (i := 52) (b := y.toNat) (by omega) (x.toNat / 2 ^ 52)
  rw [← e] at this
  rw [← this]
  omega
theorem or_63 {a : Int} (h : 0 ≤ a) (h' : a < 9223372036854775808) : bits .or .u64 a 9223372036854775808 = a + 9223372036854775808 := by go_bits2
theorem makeM_eq (s : Bool) {e f : Int} (h : 0 ≤ e) (h' : e < 2047) (g : InU f) : makeM s e f = (if s = true then 9223372036854775808 else 0) + e * 4503599627370496 + f % 4503599627370496 := by
  have g1 := g.1
  have g2 := g.2
  unfold makeM
  have e0 : bits .and .u64 (IntKind.u64.wrap e) 2047 = e := by
    rw [wrap_u64, and_2047 (by omega) (by omega)]; omega
  have e1 : shlV .u64 (bits .and .u64 (IntKind.u64.wrap e) 2047) 52 = e * 4503599627370496 := by
    rw [e0]
    unfold shlV
    have : min (52 : Int).toNat IntKind.u64.bits = 52 := by decide
    rw [this, wrap_u64]
    have p52 : (2 : Int) ^ 52 = 4503599627370496 := by decide
    rw [p52]
    omega
  have e2 : bits .or .u64 (shlV .u64 (bits .and .u64 (IntKind.u64.wrap e) 2047) 52) (bits .and .u64 f 4503599627370495) = e * 4503599627370496 + f % 4503599627370496 := by
    rw [e1, and_52 g1 (by omega)]
    exact or_join (by omega) (by omega) (by omega) (by omega) (by omega)
  rw [e2]
  cases s
  · simp
  · simp only [if_true]
    rw [or_63 (by omega) (by omega)]
    omega
theorem finite_make (s : Bool) {e f : Int} (h : 0 ≤ e) (h' : e < 2047) (g : InU f) : finiteM (makeM s e f) = true := by
  have hi := make_in s e f
  unfold finiteM
  rw [expM_eq hi, makeM_eq s h h' g]
  simp only [decide_eq_true_eq]
  split <;> omega
theorem tabM_le (y : Int) : 0 ≤ tabM y ∧ tabM y ≤ 8 := by
  unfold tabM
  have : ∀ i, LEN8.getD i 0 ≤ 8 := by
    intro i
    rcases Nat.lt_or_ge i LEN8.length with h | h
    · have hall : ∀ x ∈ LEN8, x ≤ 8 := by decide
      rw [List.getD_eq_getElem?_getD, List.getElem?_eq_getElem h]
      exact hall _ (List.getElem_mem h)
    · rw [List.getD_eq_getElem?_getD, List.getElem?_eq_none h]
      exact Nat.zero_le _
  have := this (IntKind.u8.wrap y).toNat
  omega
theorem len1_le {n x : Int} (h : 0 ≤ n) (h' : n ≤ 100) : n ≤ len1 n x ∧ len1 n x ≤ n + 8 := by
  have ht := tabM_le x
  unfold len1
  rw [wrap_i64 (n := tabM x) (by omega), wrap_i64 (by omega)]
  omega
theorem len8_le {n x : Int} (h : 0 ≤ n) (h' : n ≤ 90) : n ≤ len8 n x ∧ len8 n x ≤ n + 16 := by
  unfold len8
  split
  · rw [wrap_i64 (by omega)]
    have := len1_le (n := n + 8) (x := shrV .u64 x 8) (by omega) (by omega)
    omega
  · have := len1_le (n := n) (x := x) (by omega) (by omega)
    omega
theorem len16_le {n x : Int} (h : 0 ≤ n) (h' : n ≤ 70) : n ≤ len16 n x ∧ len16 n x ≤ n + 32 := by
  unfold len16
  split
  · rw [wrap_i64 (by omega)]
    have := len8_le (n := n + 16) (x := shrV .u64 x 16) (by omega) (by omega)
    omega
  · have := len8_le (n := n) (x := x) (by omega) (by omega)
    omega
theorem lenM_le (x : Int) : 0 ≤ lenM x ∧ lenM x ≤ 64 := by
  unfold lenM
  split
  · have := len16_le (n := 32) (x := shrV .u64 x 32) (by omega) (by omega)
    omega
  · have := len16_le (n := 0) (x := x) (by omega) (by omega)
    omega
theorem wlenM_le (w : W2) : 0 ≤ wlenM w ∧ wlenM w ≤ 128 := by
  have h1 := lenM_le w.1
  have h2 := lenM_le w.2
  unfold wlenM
  split
  · omega
  · rw [wrap_i64 (by omega)]; omega
theorem round1_in {w : W2} (hw : InW w) (drop : Int) (more : Bool) : InW (round1 w drop more).1 := by
  unfold round1
  split
  · dsimp only
    split
    · exact waddM_in _ _
    · exact wright_in hw _
  · split
    · exact wleft_in hw _
    · exact hw
theorem round_fin (s : Bool) {w : W2} (hw : InW w) {e : Int} (h : -3000 ≤ e) (h' : e ≤ 500) (more : Bool) : finiteM (roundM s w e more).1 = true := by
  have hl := wlenM_le w
  have hc : clampM e = e := by
    unfold clampM
    rw [if_neg (by omega : ¬ (100000 : Int) < e), if_pos (by omega)]
  unfold roundM
  rw [hc]
  dsimp only
  split
  · exact finite_make s (by omega) (by omega) zero_in
  rw [wrap_i64 (n := wlenM w - 53) (by omega), wrap_i64 (n := e + (wlenM w - 53)) (by omega), wrap_i64 (n := -1074 - e) (by omega)]
  generalize hd : (if e + (wlenM w - 53) < -1074 then -1074 - e else wlenM w - 53) = drop
  have hdb : -1074 ≤ e + drop ∧ e + drop ≤ 600 := by rw [← hd]; split <;> omega
  rw [wrap_i64 (n := e + drop) (by omega)]
  have hr := round1_in hw drop more
  generalize round1 w drop more = u at hr
  have hm : InU u.1.2 := hr.2
  have h2 : InU (round2 u.1.2 (e + drop)).1 ∧ -1074 ≤ (round2 u.1.2 (e + drop)).2 ∧ (round2 u.1.2 (e + drop)).2 ≤ 601 := by
    unfold round2
    split
    · rw [wrap_i64 (by omega)]
      exact ⟨shr_inU hm 1, by dsimp only; omega, by dsimp only; omega⟩
    · exact ⟨hm, by dsimp only; omega, by dsimp only; omega⟩
  generalize round2 u.1.2 (e + drop) = v at h2
  obtain ⟨v1, v2, v3⟩ := h2
  unfold round3
  dsimp only
  rw [wrap_i64 (n := v.2 + 1075) (by omega)]
  split
  · exact finite_make s (by omega) (by omega) v1
  · rw [if_neg (by omega)]
    exact finite_make s (by omega) (by omega) v1

theorem powE_le : ∀ (f : Nat) (n e : Int), -5000 ≤ e → e + f ≤ 5000 → e ≤ powE f n e ∧ powE f n e ≤ e + f
  | 0, n, e, h, h' => by unfold powE; omega
  | f + 1, n, e, h, h' => by
    unfold powE
    split
    · rw [wrap_i64 (by omega)]
      have := powE_le f (shrV .u64 n 1) (e + 1) (by omega) (by omega)
      omega
    · omega
theorem expM_abs {b : Int} (h : InU b) : expM (absM b) = expM b := by
  have h1 := h.1
  have h2 := h.2
  rw [expM_eq (abs_in b), expM_eq h, absM_eq h]
  omega
theorem expM_mono {a b : Int} (ha : InU a) (hb : InU b) (h : absM a ≤ absM b) : expM a ≤ expM b := by
  rw [← expM_abs ha, ← expM_abs hb]
  have a1 := ha.1
  have a2 := ha.2
  have b1 := hb.1
  have b2 := hb.2
  rw [expM_eq (abs_in a), expM_eq (abs_in b)]
  rw [absM_eq ha, absM_eq hb] at *
  omega
theorem absM_abs {b : Int} (h : InU b) : absM (absM b) = absM b := by
  rw [absM_eq (abs_in b), absM_eq h]
  omega
/-- The greatest is finite, and no other has a greater exponent. -/
theorem most_fin {n : Int} {D : List Int} (h : MatOk n n D) (hI : InD D) (hf : finD D = true) : absM (mostM n n D n.toNat) = mostM n n D n.toNat ∧ finiteM (mostM n n D n.toNat) = true ∧ ∀ i k : Nat, (i : Int) < n → (k : Int) < n → absM (atM n n n D i k) ≤ mostM n n D n.toNat := by
  have hat : ∀ i k : Nat, (i : Int) < n → (k : Int) < n → InU (atM n n n D i k) ∧ finiteM (atM n n n D i k) = true := fun i k hi hk => by
    refine ⟨atM_in hI _ _ _ _ _, ?_⟩
    unfold finD at hf
    rw [List.all_eq_true] at hf
    exact hf _ (at_mem h hi hk)
  have row : ∀ (i : Nat) (s : Int), (i : Int) < n → InU s → absM s = s → finiteM s = true → ∀ m : Nat, (m : Int) ≤ n → absM (mostR n n D i m s) = mostR n n D i m s ∧ finiteM (mostR n n D i m s) = true ∧ s ≤ mostR n n D i m s ∧ ∀ k : Nat, k < m → absM (atM n n n D i k) ≤ mostR n n D i m s := by
    intro i s hi hs ha hfs m
    induction m with
    | zero => exact fun _ => ⟨ha, hfs, Int.le_refl _, fun k hk => by omega⟩
    | succ m ih =>
      intro hm
      obtain ⟨h1, h2, h3, h4⟩ := ih (by omega)
      have hx := hat i m hi (by omega)
      have e : mostR n n D i (m + 1) s = mostS n n D i m (mostR n n D i m s) := rfl
      rw [e]
      unfold mostS
      split
      · rename_i hlt
        refine ⟨absM_abs hx.1, ?_, by omega, fun k hk => ?_⟩
        · have := hx.2
          unfold finiteM at this ⊢
          rw [expM_abs hx.1]; exact this
        · by_cases e : k = m
          · subst e; exact Int.le_refl _
          · have := h4 k (by omega); omega
      · refine ⟨h1, h2, h3, fun k hk => ?_⟩
        by_cases e : k = m
        · subst e; omega
        · exact h4 k (by omega)
  have all : ∀ m : Nat, (m : Int) ≤ n → absM (mostM n n D m) = mostM n n D m ∧ finiteM (mostM n n D m) = true ∧ ∀ i k : Nat, i < m → (k : Int) < n → absM (atM n n n D i k) ≤ mostM n n D m := by
    intro m
    induction m with
    | zero => exact fun _ => ⟨by show absM 0 = 0; decide, by show finiteM 0 = true; decide, fun i k hi => by omega⟩
    | succ m ih =>
      intro hm
      obtain ⟨h1, h2, h3⟩ := ih (by omega)
      obtain ⟨r1, r2, r3, r4⟩ := row m (mostM n n D m) (by omega) (mostM_in _ _ _ _) h1 h2 n.toNat (by have := h.r0; omega)
      have e : mostM n n D (m + 1) = mostR n n D m n.toNat (mostM n n D m) := rfl
      rw [e]
      refine ⟨r1, r2, fun i k hi hk => ?_⟩
      by_cases e : i = m
      · subst e; exact r4 k (by omega)
      · have := h3 i k (by omega) hk; omega
  obtain ⟨a1, a2, a3⟩ := all n.toNat (by have := h.r0; omega)
  exact ⟨a1, a2, fun i k hi hk => a3 i k (by omega) hk⟩
theorem kind_fin {b : Int} (h : finiteM b = true) : kindM b = 1 ∨ (kindM b = 2 ∧ expM b = 0) ∨ (kindM b = 3 ∧ 0 ≠ expM b ∧ expM b < 2047) := by
  unfold finiteM at h
  simp only [decide_eq_true_eq] at h
  unfold kindM
  split
  · split
    · exact .inl rfl
    · exact .inr (.inl ⟨rfl, by assumption⟩)
  · exact .inr (.inr ⟨rfl, by omega, h⟩)
theorem scale_fin {b n : Int} (h : InU b) (hf : finiteM b = true) (hn : -1200 ≤ n ∧ n ≤ 1200) (he : (partsM b).2 + n ≤ 500) : finiteM (scaleM b n).1 = true := by
  have hex : 0 ≤ expM b := by rw [expM_eq h]; omega
  have hw : InW (0, (partsM b).1) := ⟨zero_in, parts_in h⟩
  have hc : (if -10000 < (if 10000 < n then 10000 else n) then (if 10000 < n then 10000 else n) else -10000) = n := by
    rw [if_neg (by omega : ¬ 10000 < n), if_pos (by omega)]
  unfold scaleM
  rw [hc]
  rcases kind_fin hf with hk | ⟨hk, _⟩ | ⟨hk, h0, h1⟩
  · rw [if_neg (by omega), if_pos (.inr hk)]; exact hf
  · rw [if_neg (by omega), if_neg (by omega)]
    have hp : (partsM b).2 = -1074 := by unfold partsM; rw [if_pos hk]
    rw [wrap_i64 (by omega)]
    exact round_fin _ hw (by omega) (by omega) _
  · rw [if_neg (by omega), if_neg (by omega)]
    have hp : (partsM b).2 = expM b - 1075 := by
      unfold partsM
      rw [if_neg (by omega), if_pos hk, wrap_i64 (by omega)]
    rw [wrap_i64 (by omega)]
    exact round_fin _ hw (by omega) (by omega) _
theorem atM_map {r c : Int} {D : List Int} (h : MatOk r c D) (f : Int → Int) {i k : Nat} (hi : (i : Int) < r) (hk : (k : Int) < c) : atM r c c (D.map f) i k = f (atM r c c D i k) := by
  have h2 : MatOk r c (D.map f) := ⟨h.r0, h.r1, h.c0, h.c1, by rw [List.length_map]; exact h.len⟩
  rw [atM_in' h hi hk, atM_in' h2 hi hk]
  have := place_lt h.r0 h.c0 hi hk
  rw [← h.len] at this
  simp [List.getD_eq_getElem?_getD, this]
theorem unit_fin {n : Int} {D : List Int} (h : MatOk n n D) (hI : InD D) (hf : finD D = true) {i k : Nat} (hi : (i : Int) < n) (hk : (k : Int) < n) : finiteM (atM n n n (unitD n n D) i k) = true := by
  obtain ⟨h1, h2, h3⟩ := most_fin h hI hf
  have hmi := mostM_in n n D n.toNat
  have hfx : finiteM (atM n n n D i k) = true := by
    unfold finD at hf
    rw [List.all_eq_true] at hf
    exact hf _ (at_mem h hi hk)
  have hx : InU (atM n n n D i k) := atM_in hI _ _ _ _ _
  unfold unitD
  split
  · exact hfx
  rename_i hne
  unfold scaleD
  rw [atM_map h (fun b => (scaleM b (IntKind.i64.wrap (-unitE n n D))).1) hi hk]
  have hE : unitE n n D = powE 64 (unitP n n D).1 (unitP n n D).2 := if_neg hne
  have hmono := expM_mono hx hmi (by rw [h1]; exact h3 i k hi hk)
  have hxp : 0 ≤ expM (atM n n n D i k) := by rw [expM_eq hx]; omega
  have hparts : -1074 ≤ (unitP n n D).2 ∧ (unitP n n D).2 ≤ 972 ∧ (kindM (atM n n n D i k) ≠ 1 → (partsM (atM n n n D i k)).2 ≤ (unitP n n D).2) := by
    have hne' : ¬ (partsM (mostM n n D n.toNat)).1 = 0 := hne
    show -1074 ≤ (partsM (mostM n n D n.toNat)).2 ∧ (partsM (mostM n n D n.toNat)).2 ≤ 972 ∧ (kindM (atM n n n D i k) ≠ 1 → (partsM (atM n n n D i k)).2 ≤ (partsM (mostM n n D n.toNat)).2)
    have px : kindM (atM n n n D i k) ≠ 1 → (partsM (atM n n n D i k)).2 = (if expM (atM n n n D i k) = 0 then -1074 else expM (atM n n n D i k) - 1075) := fun h1 => by
      rcases kind_fin hfx with hk | ⟨hk, h0⟩ | ⟨hk, h0, h1⟩
      · exact absurd hk h1
      · unfold partsM; rw [if_pos hk, if_pos h0]
      · unfold partsM; rw [if_neg (by omega), if_pos hk, if_neg (by omega), wrap_i64 (by omega)]
    have hmp : 0 ≤ expM (mostM n n D n.toNat) := by rw [expM_eq hmi]; omega
    rcases kind_fin h2 with hk | ⟨hk, h0⟩ | ⟨hk, h0, h1⟩
    · exfalso; apply hne'; unfold partsM; rw [if_neg (by omega), if_neg (by omega)]
    · have e : (partsM (mostM n n D n.toNat)).2 = -1074 := by unfold partsM; rw [if_pos hk]
      rw [e]
      refine ⟨by omega, by omega, fun hk1 => ?_⟩
      rw [px hk1, if_pos (by omega)]
      omega
    · have e : (partsM (mostM n n D n.toNat)).2 = expM (mostM n n D n.toNat) - 1075 := by unfold partsM; rw [if_neg (by omega), if_pos hk, wrap_i64 (by omega)]
      rw [e]
      refine ⟨by omega, by omega, fun hk1 => ?_⟩
      rw [px hk1]
      split <;> omega
  obtain ⟨p1, p2, p3⟩ := hparts
  have hp := powE_le 64 (unitP n n D).1 (unitP n n D).2 (by omega) (by omega)
  rw [← hE] at hp
  rw [wrap_i64 (n := -unitE n n D) (by omega)]
  by_cases hk1 : kindM (atM n n n D i k) = 1
  · unfold scaleM
    rw [if_neg (by omega), if_pos (.inr hk1)]
    exact hfx
  · have := p3 hk1
    exact scale_fin hx hfx (by omega) (by omega)
end Go.Proofs.Ytamoljalficfgaa.M
