/- Rounding what is not great is finite; a matrix divided by its greatest number is. -/
import Derived.Test.YtcikcinkjbbnhaaDoorC28
set_option linter.unusedSimpArgs false
set_option linter.unusedVariables false
set_option maxRecDepth 10000
set_option maxHeartbeats 4000000
namespace Go.Proofs.YtcikcinkjbbnhaaDoor.M
open Go Go.Proofs

theorem or_join {x y : Int} (hx0 : 0 ≤ x) (hx : x % 4503599627370496 = 0) (hx1 : x < 18446744073709551616) (hy0 : 0 ≤ y) (hy : y < 4503599627370496) : bits .or .u64 x y = x + y := by
  rw [Go.u64_or x y hx0 hx1 hy0 (by omega)]
  have e : x.toNat = 2 ^ 52 * (x.toNat / 2 ^ 52) := by omega
  have := Nat.two_pow_add_eq_or_of_lt (i := 52) (b := y.toNat) (by omega) (x.toNat / 2 ^ 52)
  rw [← e] at this
  rw [← this]
  omega
theorem or_63 {a : Int} (h : 0 ≤ a) (h' : a < 9223372036854775808) : bits .or .u64 a 9223372036854775808 = a + 9223372036854775808 := by go_bits2
theorem makeM_eq (s : Bool) {e f : Int} (h : 0 ≤ e) (h' : e < 2047) (g : InU f) : makeM s e f = (if s = true then 9223372036854775808 else 0) + e * 4503599627370496 + f % 4503599627370496 := by
  have g1 := g.1
  have g2 := g.2
  unfold makeM
  have e0 : bits .and .u64 (IntKind.u64.wrap e) 2047 = e := by
    rw [wrap_u64, and_2047 (by omega) (by omega)]; omega
  have e1 : shlV .u64 (bits .and .u64 (IntKind.u64.wrap e) 2047) 52 = e * 4503599627370496 := by
    rw [e0]
    unfold shlV
    have : min (52 : Int).toNat IntKind.u64.bits = 52 := by decide
    rw [this, wrap_u64]
    have p52 : (2 : Int) ^ 52 = 4503599627370496 := by decide
    rw [p52]
    omega
  have e2 : bits .or .u64 (shlV .u64 (bits .and .u64 (IntKind.u64.wrap e) 2047) 52) (bits .and .u64 f 4503599627370495) = e * 4503599627370496 + f % 4503599627370496 := by
    rw [e1, and_52 g1 (by omega)]
    exact or_join (by omega) (by omega) (by omega) (by omega) (by omega)
  rw [e2]
  cases s
  · simp
  · simp only [if_true]
    rw [or_63 (by omega) (by omega)]
    omega
theorem finite_make (s : Bool) {e f : Int} (h : 0 ≤ e) (h' : e < 2047) (g : InU f) : finiteM (makeM s e f) = true := by
  have hi := make_in s e f
  unfold finiteM
  rw [expM_eq hi, makeM_eq s h h' g]
  simp only [decide_eq_true_eq]
  split <;> omega
theorem tabM_le (y : Int) : 0 ≤ tabM y ∧ tabM y ≤ 8 := by
  unfold tabM
  have : ∀ i, LEN8.getD i 0 ≤ 8 := by
    intro i
    rcases Nat.lt_or_ge i LEN8.length with h | h
    · have hall : ∀ x ∈ LEN8, x ≤ 8 := by decide
      rw [List.getD_eq_getElem?_getD, List.getElem?_eq_getElem h]
      exact hall _ (List.getElem_mem h)
    · rw [List.getD_eq_getElem?_getD, List.getElem?_eq_none h]
      exact Nat.zero_le _
  have := this (IntKind.u8.wrap y).toNat
  omega
theorem len1_le {n x : Int} (h : 0 ≤ n) (h' : n ≤ 100) : n ≤ len1 n x ∧ len1 n x ≤ n + 8 := by
  have ht := tabM_le x
  unfold len1
  rw [wrap_i64 (n := tabM x) (by omega), wrap_i64 (by omega)]
  omega
theorem len8_le {n x : Int} (h : 0 ≤ n) (h' : n ≤ 90) : n ≤ len8 n x ∧ len8 n x ≤ n + 16 := by
  unfold len8
  split
  · rw [wrap_i64 (by omega)]
    have := len1_le (n := n + 8) (x := shrV .u64 x 8) (by omega) (by omega)
    omega
  · have := len1_le (n := n) (x := x) (by omega) (by omega)
    omega
theorem len16_le {n x : Int} (h : 0 ≤ n) (h' : n ≤ 70) : n ≤ len16 n x ∧ len16 n x ≤ n + 32 := by
  unfold len16
  split
  · rw [wrap_i64 (by omega)]
    have := len8_le (n := n + 16) (x := shrV .u64 x 16) (by omega) (by omega)
    omega
  · have := len8_le (n := n) (x := x) (by omega) (by omega)
    omega
theorem lenM_le (x : Int) : 0 ≤ lenM x ∧ lenM x ≤ 64 := by
  unfold lenM
  split
  · have := len16_le (n := 32) (x := shrV .u64 x 32) (by omega) (by omega)
    omega
  · have := len16_le (n := 0) (x := x) (by omega) (by omega)
    omega
theorem wlenM_le (w : W2) : 0 ≤ wlenM w ∧ wlenM w ≤ 128 := by
  have h1 := lenM_le w.1
  have h2 := lenM_le w.2
  unfold wlenM
  split
  · omega
  · rw [wrap_i64 (by omega)]; omega
theorem round1_in {w : W2} (hw : InW w) (drop : Int) (more : Bool) : InW (round1 w drop more).1 := by
  unfold round1
  split
  · dsimp only
    split
    · exact waddM_in _ _
    · exact wright_in hw _
  · split
    · exact wleft_in hw _
    · exact hw
theorem round_fin (s : Bool) {w : W2} (hw : InW w) {e : Int} (h : -3000 ≤ e) (h' : e ≤ 500) (more : Bool) : finiteM (roundM s w e more).1 = true := by
  have hl := wlenM_le w
  have hc : clampM e = e := by
    unfold clampM
    rw [if_neg (by omega : ¬ (100000 : Int) < e), if_pos (by omega)]
  unfold roundM
  rw [hc]
  dsimp only
  split
  · exact finite_make s (by omega) (by omega) zero_in
  rw [wrap_i64 (n := wlenM w - 53) (by omega), wrap_i64 (n := e + (wlenM w - 53)) (by omega), wrap_i64 (n := -1074 - e) (by omega)]
  generalize hd : (if e + (wlenM w - 53) < -1074 then -1074 - e else wlenM w - 53) = drop
  have hdb : -1074 ≤ e + drop ∧ e + drop ≤ 600 := by rw [← hd]; split <;> omega
  rw [wrap_i64 (n := e + drop) (by omega)]
  have hr := round1_in hw drop more
  generalize round1 w drop more = u at hr
  have hm : InU u.1.2 := hr.2
  have h2 : InU (round2 u.1.2 (e + drop)).1 ∧ -1074 ≤ (round2 u.1.2 (e + drop)).2 ∧ (round2 u.1.2 (e + drop)).2 ≤ 601 := by
    unfold round2
    split
    · rw [wrap_i64 (by omega)]
      exact ⟨shr_inU hm 1, by dsimp only; omega, by dsimp only; omega⟩
    · exact ⟨hm, by dsimp only; omega, by dsimp only; omega⟩
  generalize round2 u.1.2 (e + drop) = v at h2
  obtain ⟨v1, v2, v3⟩ := h2
  unfold round3
  dsimp only
  rw [wrap_i64 (n := v.2 + 1075) (by omega)]
  split
  · exact finite_make s (by omega) (by omega) v1
  · rw [if_neg (by omega)]
    exact finite_make s (by omega) (by omega) v1

theorem powE_le : ∀ (f : Nat) (n e : Int), -5000 ≤ e → e + f ≤ 5000 → e ≤ powE f n e ∧ powE f n e ≤ e + f
  | 0, n, e, h, h' => by unfold powE; omega
  | f + 1, n, e, h, h' => by
    unfold powE
    split
    · rw [wrap_i64 (by omega)]
      have := powE_le f (shrV .u64 n 1) (e + 1) (by omega) (by omega)
      omega
    · omega
theorem expM_abs {b : Int} (h : InU b) : expM (absM b) = expM b := by
  have h1 := h.1
  have h2 := h.2
  rw [expM_eq (abs_in b), expM_eq h, absM_eq h]
  omega
theorem expM_mono {a b : Int} (ha : InU a) (hb : InU b) (h : absM a ≤ absM b) : expM a ≤ expM b := by
  rw [← expM_abs ha, ← expM_abs hb]
  have a1 := ha.1
  have a2 := ha.2
  have b1 := hb.1
  have b2 := hb.2
  rw [expM_eq (abs_in a), expM_eq (abs_in b)]
  rw [absM_eq ha, absM_eq hb] at *
  omega
theorem absM_abs {b : Int} (h : InU b) : absM (absM b) = absM b := by
  rw [absM_eq (abs_in b), absM_eq h]
  omega
/-- The greatest is finite, and no other has a greater exponent. -/
theorem most_fin {n : Int} {D : List Int} (h : MatOk n n D) (hI : InD D) (hf : finD D = true) : absM (mostM n n D n.toNat) = mostM n n D n.toNat ∧ finiteM (mostM n n D n.toNat) = true ∧ ∀ i k : Nat, (i : Int) < n → (k : Int) < n → absM (atM n n n D i k) ≤ mostM n n D n.toNat := by
  have hat : ∀ i k : Nat, (i : Int) < n → (k : Int) < n → InU (atM n n n D i k) ∧ finiteM (atM n n n D i k) = true := fun i k hi hk => by
    refine ⟨atM_in hI _ _ _ _ _, ?_⟩
    unfold finD at hf
    rw [List.all_eq_true] at hf
    exact hf _ (at_mem h hi hk)
  have row : ∀ (i : Nat) (s : Int), (i : Int) < n → InU s → absM s = s → finiteM s = true → ∀ m : Nat, (m : Int) ≤ n → absM (mostR n n D i m s) = mostR n n D i m s ∧ finiteM (mostR n n D i m s) = true ∧ s ≤ mostR n n D i m s ∧ ∀ k : Nat, k < m → absM (atM n n n D i k) ≤ mostR n n D i m s := by
    intro i s hi hs ha hfs m
    induction m with
    | zero => exact fun _ => ⟨ha, hfs, Int.le_refl _, fun k hk => by omega⟩
    | succ m ih =>
      intro hm
      obtain ⟨h1, h2, h3, h4⟩ := ih (by omega)
      have hx := hat i m hi (by omega)
      have e : mostR n n D i (m + 1) s = mostS n n D i m (mostR n n D i m s) := rfl
      rw [e]
      unfold mostS
      split
      · rename_i hlt
        refine ⟨absM_abs hx.1, ?_, by omega, fun k hk => ?_⟩
        · have := hx.2
          unfold finiteM at this ⊢
          rw [expM_abs hx.1]; exact this
        · by_cases e : k = m
          · subst e; exact Int.le_refl _
          · have := h4 k (by omega); omega
      · refine ⟨h1, h2, h3, fun k hk => ?_⟩
        by_cases e : k = m
        · subst e; omega
        · exact h4 k (by omega)
  have all : ∀ m : Nat, (m : Int) ≤ n → absM (mostM n n D m) = mostM n n D m ∧ finiteM (mostM n n D m) = true ∧ ∀ i k : Nat, i < m → (k : Int) < n → absM (atM n n n D i k) ≤ mostM n n D m := by
    intro m
    induction m with
    | zero => exact fun _ => ⟨by show absM 0 = 0; decide, by show finiteM 0 = true; decide, fun i k hi => by omega⟩
    | succ m ih =>
      intro hm
      obtain ⟨h1, h2, h3⟩ := ih (by omega)
      obtain ⟨r1, r2, r3, r4⟩ := row m (mostM n n D m) (by omega) (mostM_in _ _ _ _) h1 h2 n.toNat (by have := h.r0; omega)
      have e : mostM n n D (m + 1) = mostR n n D m n.toNat (mostM n n D m) := rfl
      rw [e]
      refine ⟨r1, r2, fun i k hi hk => ?_⟩
      by_cases e : i = m
      · subst e; exact r4 k (by omega)
      · have := h3 i k (by omega) hk; omega
  obtain ⟨a1, a2, a3⟩ := all n.toNat (by have := h.r0; omega)
  exact ⟨a1, a2, fun i k hi hk => a3 i k (by omega) hk⟩
theorem kind_fin {b : Int} (h : finiteM b = true) : kindM b = 1 ∨ (kindM b = 2 ∧ expM b = 0) ∨ (kindM b = 3 ∧ 0 ≠ expM b ∧ expM b < 2047) := by
  unfold finiteM at h
  simp only [decide_eq_true_eq] at h
  unfold kindM
  split
  · split
    · exact .inl rfl
    · exact .inr (.inl ⟨rfl, by assumption⟩)
  · exact .inr (.inr ⟨rfl, by omega, h⟩)
theorem scale_fin {b n : Int} (h : InU b) (hf : finiteM b = true) (hn : -1200 ≤ n ∧ n ≤ 1200) (he : (partsM b).2 + n ≤ 500) : finiteM (scaleM b n).1 = true := by
  have hex : 0 ≤ expM b := by rw [expM_eq h]; omega
  have hw : InW (0, (partsM b).1) := ⟨zero_in, parts_in h⟩
  have hc : (if -10000 < (if 10000 < n then 10000 else n) then (if 10000 < n then 10000 else n) else -10000) = n := by
    rw [if_neg (by omega : ¬ 10000 < n), if_pos (by omega)]
  unfold scaleM
  rw [hc]
  rcases kind_fin hf with hk | ⟨hk, _⟩ | ⟨hk, h0, h1⟩
  · rw [if_neg (by omega), if_pos (.inr hk)]; exact hf
  · rw [if_neg (by omega), if_neg (by omega)]
    have hp : (partsM b).2 = -1074 := by unfold partsM; rw [if_pos hk]
    rw [wrap_i64 (by omega)]
    exact round_fin _ hw (by omega) (by omega) _
  · rw [if_neg (by omega), if_neg (by omega)]
    have hp : (partsM b).2 = expM b - 1075 := by
      unfold partsM
      rw [if_neg (by omega), if_pos hk, wrap_i64 (by omega)]
    rw [wrap_i64 (by omega)]
    exact round_fin _ hw (by omega) (by omega) _
theorem atM_map {r c : Int} {D : List Int} (h : MatOk r c D) (f : Int → Int) {i k : Nat} (hi : (i : Int) < r) (hk : (k : Int) < c) : atM r c c (D.map f) i k = f (atM r c c D i k) := by
  have h2 : MatOk r c (D.map f) := ⟨h.r0, h.r1, h.c0, h.c1, by rw [List.length_map]; exact h.len⟩
  rw [atM_in' h hi hk, atM_in' h2 hi hk]
  have := place_lt h.r0 h.c0 hi hk
  rw [← h.len] at this
  simp [List.getD_eq_getElem?_getD, this]
theorem unit_fin {n : Int} {D : List Int} (h : MatOk n n D) (hI : InD D) (hf : finD D = true) {i k : Nat} (hi : (i : Int) < n) (hk : (k : Int) < n) : finiteM (atM n n n (unitD n n D) i k) = true := by
  obtain ⟨h1, h2, h3⟩ := most_fin h hI hf
  have hmi := mostM_in n n D n.toNat
  have hfx : finiteM (atM n n n D i k) = true := by
    unfold finD at hf
    rw [List.all_eq_true] at hf
    exact hf _ (at_mem h hi hk)
  have hx : InU (atM n n n D i k) := atM_in hI _ _ _ _ _
  unfold unitD
  split
  · exact hfx
  rename_i hne
  unfold scaleD
  rw [atM_map h (fun b => (scaleM b (IntKind.i64.wrap (-unitE n n D))).1) hi hk]
  have hE : unitE n n D = powE 64 (unitP n n D).1 (unitP n n D).2 := if_neg hne
  have hmono := expM_mono hx hmi (by rw [h1]; exact h3 i k hi hk)
  have hxp : 0 ≤ expM (atM n n n D i k) := by rw [expM_eq hx]; omega
  have hparts : -1074 ≤ (unitP n n D).2 ∧ (unitP n n D).2 ≤ 972 ∧ (kindM (atM n n n D i k) ≠ 1 → (partsM (atM n n n D i k)).2 ≤ (unitP n n D).2) := by
    have hne' : ¬ (partsM (mostM n n D n.toNat)).1 = 0 := hne
    show -1074 ≤ (partsM (mostM n n D n.toNat)).2 ∧ (partsM (mostM n n D n.toNat)).2 ≤ 972 ∧ (kindM (atM n n n D i k) ≠ 1 → (partsM (atM n n n D i k)).2 ≤ (partsM (mostM n n D n.toNat)).2)
    have px : kindM (atM n n n D i k) ≠ 1 → (partsM (atM n n n D i k)).2 = (if expM (atM n n n D i k) = 0 then -1074 else expM (atM n n n D i k) - 1075) := fun h1 => by
      rcases kind_fin hfx with hk | ⟨hk, h0⟩ | ⟨hk, h0, h1⟩
      · exact absurd hk h1
      · unfold partsM; rw [if_pos hk, if_pos h0]
      · unfold partsM; rw [if_neg (by omega), if_pos hk, if_neg (by omega), wrap_i64 (by omega)]
    have hmp : 0 ≤ expM (mostM n n D n.toNat) := by rw [expM_eq hmi]; omega
    rcases kind_fin h2 with hk | ⟨hk, h0⟩ | ⟨hk, h0, h1⟩
    · exfalso; apply hne'; unfold partsM; rw [if_neg (by omega), if_neg (by omega)]
    · have e : (partsM (mostM n n D n.toNat)).2 = -1074 := by unfold partsM; rw [if_pos hk]
      rw [e]
      refine ⟨by omega, by omega, fun hk1 => ?_⟩
      rw [px hk1, if_pos (by omega)]
      omega
    · have e : (partsM (mostM n n D n.toNat)).2 = expM (mostM n n D n.toNat) - 1075 := by unfold partsM; rw [if_neg (by omega), if_pos hk, wrap_i64 (by omega)]
      rw [e]
      refine ⟨by omega, by omega, fun hk1 => ?_⟩
      rw [px hk1]
      split <;> omega
  obtain ⟨p1, p2, p3⟩ := hparts
  have hp := powE_le 64 (unitP n n D).1 (unitP n n D).2 (by omega) (by omega)
  rw [← hE] at hp
  rw [wrap_i64 (n := -unitE n n D) (by omega)]
  by_cases hk1 : kindM (atM n n n D i k) = 1
  · unfold scaleM
    rw [if_neg (by omega), if_pos (.inr hk1)]
    exact hfx
  · have := p3 hk1
    exact scale_fin hx hfx (by omega) (by omega)
end Go.Proofs.YtcikcinkjbbnhaaDoor.M

/- Square roots. -/
set_option linter.unusedSimpArgs false
set_option linter.unusedVariables false
set_option maxRecDepth 10000
set_option maxHeartbeats 4000000
namespace Go.Proofs.YtcikcinkjbbnhaaDoor.M
open Go Go.Proofs

def sqNext (k : Nat) (x : Int) : Int := bits .or .u64 x (shlV .u64 1 (63 - (k : Int)))
def sqStep (w : W2) (k : Nat) (x : Int) : Int := if wcmpM (mul64M (sqNext k x) (sqNext k x)) w ≤ 0 then sqNext k x else x
def sqI (w : W2) (n : Nat) : Int := iter (sqStep w) n 0
theorem sqI_in (w : W2) : ∀ n, InU (sqI w n)
  | 0 => zero_in
  | n + 1 => by
    show InU (sqStep w n (sqI w n))
    unfold sqStep
    split
    · exact bits_inU _ _ _
    · exact sqI_in w n
def wsqrtM (w : W2) : Int × Bool := (sqI w 64, decide ((mul64M (sqI w 64) (sqI w 64)).1 = w.1) && decide ((mul64M (sqI w 64) (sqI w 64)).2 = w.2))
theorem wsqrt_spec (w : W2) (H : MH) : Spec Tryd.prog 94 [wd w] H fun v H' => v = .tup [u64 (wsqrtM w).1, bl (wsqrtM w).2] ∧ H' = H := by
  refine Spec.scalar (enterS Tryd.func94 [.tmp 2, .tmp 3] ?_)
  repeat' first | (with_reducible (show W _ _ _ _ _); with_reducible refine go2 ?_) | (with_reducible (show W _ _ _ _ _); with_reducible refine sg2 ?_ ?_ <;> intro _) | (with_reducible (show W _ _ _ _ _); with_reducible refine sc2 ?_ ?_ <;> intro _) | (with_reducible (show W _ _ (.code (.region 6 _ true) :: _) _ _); with_reducible refine W_draw [(0, []), (1, []), (3, []), (2, [3]), (4, []), (5, [])] [3] (by kernel_rfl) ?_) | (with_reducible (show W _ _ (.code (.region 8 _ true) :: _) _ _); with_reducible refine W_draw [(0, []), (1, []), (2, []), (4, []), (3, [4]), (5, []), (6, []), (7, [])] [4] (by kernel_rfl) ?_)
  refine W_for (fun j ρ H' => ∃ k : Nat, k + j = 64 ∧ ρ 1 = .ptr H.length 0 ∧ ρ 4 = u64 (sqI w k) ∧ ρ 5 = i64 (63 - (k : Int)) ∧ H' = H ++ [some ⟨[u64 w.1, u64 w.2], true⟩]) 64 ?_ ?_
  · refine ⟨0, by omega, ?_⟩
    simp [put, args0, sqI, iter]
  rintro j ρ H' ⟨k, hk, h1, h4, h5, rfl⟩
  have hs : 0 ≤ (63 : Int) - k → ((63 : Int) - k < 0) = False := fun h => eq_false (by omega)
  have hb : bits .or .u64 (sqI w k) (shlV .u64 1 (63 - (k : Int))) = sqNext k (sqI w k) := rfl
  have e5 : IntKind.i64.wrap ((63 : Int) - k - 1) = 63 - ((k + 1 : Nat) : Int) := by rw [wrap_i64 (by omega)]; omega
  have hst : sqI w (k + 1) = sqStep w k (sqI w k) := rfl
  repeat' first | (with_reducible (show W _ _ _ _ _); with_reducible refine go2 ?_) | (with_reducible (show W _ _ _ _ _); with_reducible refine sg2 ?_ ?_ <;> intro _) | (with_reducible (show W _ _ _ _ _); with_reducible refine sc2 ?_ ?_ <;> intro _) | (with_reducible (show CallK _ _ _ _ _ _ _ _ _ _ _); with_reducible refine ce2 (wmul_spec _ _ _) ?_) | (with_reducible (show CallK _ _ _ _ _ _ _ _ _ _ _); with_reducible refine ce2 (wcmp_spec _ w _) ?_) | (with_reducible (show W _ _ (.code (.region 6 _ true) :: _) _ _); with_reducible refine W_draw [(0, []), (1, []), (3, []), (2, [3]), (4, []), (5, [])] [3] (by kernel_rfl) ?_) | (with_reducible (show W _ _ (.code (.region 8 _ true) :: _) _ _); with_reducible refine W_draw [(0, []), (1, []), (2, []), (4, []), (3, [4]), (5, []), (6, []), (7, [])] [4] (by kernel_rfl) ?_)
  · rename_i h0 hc
    exact ⟨j - 1, by omega, k + 1, by omega, by rw [hst, sqStep, if_pos hc], rfl⟩
  · rename_i h0 hc
    exact ⟨j - 1, by omega, k + 1, by omega, by rw [hst, sqStep, if_neg hc], rfl⟩
  · have : k = 64 := by omega
    subst this
    rfl
def upM (a : Int) : Int := if bits .and .i64 (IntKind.i64.wrap ((partsM a).2 - IntKind.i64.wrap (127 - lenM (partsM a).1))) 1 = 0 then IntKind.i64.wrap (127 - lenM (partsM a).1) else IntKind.i64.wrap (IntKind.i64.wrap (127 - lenM (partsM a).1) - 1)
def rootM (a : Int) : Int × Bool := wsqrtM (wleftM (0, (partsM a).1) (upM a))
def sqrtM (a : Int) : Int × Int :=
  if kindM a = 5 then (9221120237041090560, if signalsM a then 16 else 0) else if kindM a = 1 ∨ a = 9218868437227405312 then (a, 0) else if negM a then (9221120237041090560, 16) else
  roundM false (0, (rootM a).1) (IntKind.i64.wrap ((IntKind.i64.wrap ((partsM a).2 - upM a)).tdiv 2)) (!(rootM a).2)
theorem sqrtM_in {a : Int} (ha : InU a) : InU (sqrtM a).1 := by
  unfold sqrtM
  repeat' split
  all_goals first | exact quiet_in | exact ha | exact roundM_in _ _ _ _
theorem sqrt_spec {a : Int} (ha : InU a) (H : MH) : Spec Tryd.prog 77 [u64 a] H fun v H' => v = .tup [u64 (sqrtM a).1, u8 (sqrtM a).2] ∧ H' = H := by
  have hw : ∀ w, InW (0, (wsqrtM w).1) := fun w => ⟨zero_in, sqI_in w 64⟩
  have hp := parts_in ha
  refine Spec.scalar (enterS Tryd.func77 [.tmp 2, .tmp 3] ?_)
  repeat' first | (with_reducible (show W _ _ _ _ _); with_reducible refine go2 ?_) | (with_reducible (show W _ _ _ _ _); with_reducible refine sg2 ?_ ?_ <;> intro _) | (with_reducible (show W _ _ _ _ _); with_reducible refine sc2 ?_ ?_ <;> intro _) | (with_reducible (show CallK _ _ _ _ _ _ _ _ _ _ _); with_reducible refine ce2 (kind_spec _ _) ?_) | (with_reducible (show CallK _ _ _ _ _ _ _ _ _ _ _); with_reducible refine ce2 (signals_spec _ _) ?_) | (with_reducible (show CallK _ _ _ _ _ _ _ _ _ _ _); with_reducible refine ce2 (neg_spec _ _) ?_) | (with_reducible (show CallK _ _ _ _ _ _ _ _ _ _ _); with_reducible refine ce2 (parts_spec _ _) ?_) | (with_reducible (show CallK _ _ _ _ _ _ _ _ _ _ _); with_reducible refine ce2 (len_spec hp _) ?_) | (with_reducible (show CallK _ _ _ _ _ _ _ _ _ _ _); with_reducible refine ce2 (wleft_spec (0, _) _ _) ?_) | (with_reducible (show CallK _ _ _ _ _ _ _ _ _ _ _); with_reducible refine ce2 (wsqrt_spec (wleftM _ _) _) ?_) | (with_reducible (show CallK _ _ _ _ _ _ _ _ _ _ _); with_reducible refine ce2 (round_spec _ (w := (0, _)) (hw _) _ _ _) ?_)
  all_goals simp_all [sqrtM, rootM, upM]
end Go.Proofs.YtcikcinkjbbnhaaDoor.M

/- How long a number is; quotients. -/
set_option linter.unusedSimpArgs false
set_option linter.unusedVariables false
set_option maxRecDepth 10000
set_option maxHeartbeats 8000000
namespace Go.Proofs.YtcikcinkjbbnhaaDoor.M
open Go Go.Proofs

/-- What is new is forgotten, and of the answer its kind is told. -/
theorem Spec.scalarE {P : Program} {f : FuncId} {args : List MV} {H : MH} {T : Type} {G : T → Prop} {r : T → MV} (h : Spec P f args H fun v H' => (∃ junk, H' = H ++ junk) ∧ Cl 0 [] v ∧ ∃ t, G t ∧ v = r t) : Spec P f args H fun v H' => ∃ t, G t ∧ v = r t ∧ H' = H := by
  refine Spec.gc h ?_
  rintro v H1 ⟨⟨junk, rfl⟩, hcl, t, hG, rfl⟩
  refine ⟨H, junk, [], rfl, rfl, List.nodup_nil, by simp, fun p o ho => .inl ho, by simp, cl_mono (Nat.zero_le _) _ hcl, ⟨t, hG, ?_, by simp⟩⟩
  exact ren_free _ hcl

theorem shrK {x k : Int} (hk : 0 ≤ k ∧ k ≤ 64) : shrV .u64 x k = x / 2 ^ k.toNat := by
  unfold shrV
  have : min k.toNat IntKind.u64.bits = k.toNat := by simp [IntKind.bits]; omega
  rw [this, Int.fdiv_eq_ediv_of_nonneg _ (Int.pow_nonneg (by omega))]
theorem shlK {x k : Int} (hk : 0 ≤ k ∧ k ≤ 64) : shlV .u64 x k = x * 2 ^ k.toNat % 18446744073709551616 := by
  unfold shlV
  have : min k.toNat IntKind.u64.bits = k.toNat := by simp [IntKind.bits]; omega
  rw [this, wrap_u64]
def Ln (x : Int) (L : Nat) : Prop := x < 2 ^ L ∧ (0 < x → (2 : Int) ^ L ≤ 2 * x)
theorem Ln.up {x : Int} {s L : Nat} (hx : (2 : Int) ^ s ≤ x) (h : Ln (x / 2 ^ s) L) : Ln x (s + L) := by
  have hs : (0 : Int) < 2 ^ s := Int.pow_pos (by omega)
  have hy : 0 < x / 2 ^ s := by
    have : 1 ≤ x / 2 ^ s := (Int.le_ediv_iff_mul_le hs).2 (by omega)
    omega
  refine ⟨?_, fun _ => ?_⟩
  · have := (Int.ediv_lt_iff_lt_mul hs).1 h.1
    rw [Int.pow_add, Int.mul_comm]; exact this
  · have h2 := h.2 hy
    rw [Int.pow_add]
    have h3 : 2 ^ s * (2 : Int) ^ L ≤ 2 ^ s * (2 * (x / 2 ^ s)) := Int.mul_le_mul_of_nonneg_left h2 (Int.le_of_lt hs)
    have h4 : 2 ^ s * (x / 2 ^ s) ≤ x := Int.mul_ediv_self_le (by omega)
    have h5 : (2 : Int) ^ s * (2 * (x / 2 ^ s)) = 2 * (2 ^ s * (x / 2 ^ s)) := by rw [Int.mul_left_comm]
    omega
theorem tab_ln : ∀ y : Nat, y < 256 → y < 2 ^ (LEN8.getD y 0) ∧ (0 < y → 2 ^ (LEN8.getD y 0) ≤ 2 * y) ∧ LEN8.getD y 0 ≤ 8 := by decide +kernel
theorem len1_ln {n x : Int} (hx : 0 ≤ x ∧ x < 256) (hn : 0 ≤ n ∧ n ≤ 100) : ∃ L : Nat, len1 n x = n + L ∧ L ≤ 8 ∧ Ln x L := by
  obtain ⟨y, rfl⟩ := Int.eq_ofNat_of_zero_le hx.1
  obtain ⟨h1, h2, h3⟩ := tab_ln y (by omega)
  have hw : IntKind.u8.wrap (y : Int) = y := by simp [IntKind.wrap, IntKind.signed, IntKind.bits]; omega
  refine ⟨LEN8.getD y 0, ?_, h3, ?_, fun hy => ?_⟩
  · unfold len1 tabM
    rw [hw, Int.toNat_natCast, wrap_i64 (n := ((LEN8.getD y 0 : Nat) : Int)) (by omega), wrap_i64 (by omega)]
  · exact_mod_cast h1
  · have := h2 (by omega)
    exact_mod_cast this
theorem len8_ln {n x : Int} (hx : 0 ≤ x ∧ x < 65536) (hn : 0 ≤ n ∧ n ≤ 90) : ∃ L : Nat, len8 n x = n + L ∧ L ≤ 16 ∧ Ln x L := by
  unfold len8
  split
  · rename_i h
    rw [shrK (by omega), wrap_i64 (by omega)]
    obtain ⟨L, h1, h2, h3⟩ := len1_ln (n := n + 8) (x := x / 2 ^ (8 : Int).toNat) (by constructor <;> (simp; omega)) (by omega)
    exact ⟨8 + L, by rw [h1]; omega, by omega, Ln.up (s := 8) (by simpa using h) h3⟩
  · obtain ⟨L, h1, h2, h3⟩ := len1_ln (n := n) (x := x) (by omega) (by omega)
    exact ⟨L, h1, by omega, h3⟩
theorem len16_ln {n x : Int} (hx : 0 ≤ x ∧ x < 4294967296) (hn : 0 ≤ n ∧ n ≤ 70) : ∃ L : Nat, len16 n x = n + L ∧ L ≤ 32 ∧ Ln x L := by
  unfold len16
  split
  · rename_i h
    rw [shrK (by omega), wrap_i64 (by omega)]
    obtain ⟨L, h1, h2, h3⟩ := len8_ln (n := n + 16) (x := x / 2 ^ (16 : Int).toNat) (by constructor <;> (simp; omega)) (by omega)
    exact ⟨16 + L, by rw [h1]; omega, by omega, Ln.up (s := 16) (by simpa using h) h3⟩
  · obtain ⟨L, h1, h2, h3⟩ := len8_ln (n := n) (x := x) (by omega) (by omega)
    exact ⟨L, h1, by omega, h3⟩
theorem lenM_ln {x : Int} (hx : InU x) : ∃ L : Nat, lenM x = L ∧ L ≤ 64 ∧ Ln x L := by
  have hx1 := hx.1
  have hx2 := hx.2
  unfold lenM
  split
  · rename_i h
    rw [shrK (by omega)]
    obtain ⟨L, h1, h2, h3⟩ := len16_ln (n := 32) (x := x / 2 ^ (32 : Int).toNat) (by constructor <;> (simp; omega)) (by omega)
    exact ⟨32 + L, by rw [h1]; omega, by omega, Ln.up (s := 32) (by simpa using h) h3⟩
  · obtain ⟨L, h1, h2, h3⟩ := len16_ln (n := 0) (x := x) (by omega) (by omega)
    exact ⟨L, by rw [h1]; omega, by omega, h3⟩
theorem lz_spec {x : Int} (hx : InU x) (H : MH) : Spec Tryd.prog 110 [u64 x] H fun v H' => v = i64 (IntKind.i64.wrap (64 - lenM x)) ∧ H' = H := by
  refine Spec.scalar (enterS Tryd.func110 [.tmp 2] ?_)
  repeat' first | (with_reducible (show W _ _ _ _ _); with_reducible refine go2 ?_) | (with_reducible (show W _ _ _ _ _); with_reducible refine sg2 ?_ ?_ <;> intro _) | (with_reducible (show W _ _ _ _ _); with_reducible refine sc2 ?_ ?_ <;> intro _) | (with_reducible (show CallK _ _ _ _ _ _ _ _ _ _ _); with_reducible refine ce2 (len_spec hx _) ?_)
  all_goals trivial
/-- The divisor with its highest bit at the top. -/
theorem norm_in {y : Int} (hy : InU y) (h0 : 0 < y) : 2147483648 ≤ shrV .u64 (shlV .u64 y (IntKind.u64.wrap (IntKind.i64.wrap (64 - lenM y)))) 32 ∧ shrV .u64 (shlV .u64 y (IntKind.u64.wrap (IntKind.i64.wrap (64 - lenM y)))) 32 < 4294967296 := by
  obtain ⟨L, h1, h2, h3, h4⟩ := lenM_ln hy
  have h4 := h4 h0
  rw [h1, wrap_i64 (by omega), wrap_u64, Int.emod_eq_of_lt (by omega) (by omega), shrK (by omega), shlK (by omega)]
  have e : (64 - (L : Int)).toNat = 64 - L := by omega
  rw [e]
  have hp : (2 : Int) ^ L * 2 ^ (64 - L) = 18446744073709551616 := by
    rw [← Int.pow_add, show L + (64 - L) = 64 by omega]; rfl
  have hpos : (0 : Int) < 2 ^ (64 - L) := Int.pow_pos (by omega)
  have u1 : y * 2 ^ (64 - L) < 18446744073709551616 := by rw [← hp]; exact Int.mul_lt_mul_of_pos_right h3 hpos
  have u2 : 18446744073709551616 ≤ 2 * (y * 2 ^ (64 - L)) := by
    rw [← hp, ← Int.mul_assoc]; exact Int.mul_le_mul_of_nonneg_right h4 (Int.le_of_lt hpos)
  have u3 : 0 ≤ y * 2 ^ (64 - L) := by omega
  rw [Int.emod_eq_of_lt u3 u1]
  have e32 : (2 : Int) ^ (32 : Int).toNat = 4294967296 := by decide
  rw [e32]
  generalize y * 2 ^ (64 - L) = z at u1 u2 u3
  omega
end Go.Proofs.YtcikcinkjbbnhaaDoor.M

/- Quotients. -/
set_option linter.unusedSimpArgs false
set_option linter.unusedVariables false
set_option maxRecDepth 10000
set_option maxHeartbeats 8000000
namespace Go.Proofs.YtcikcinkjbbnhaaDoor.M
open Go Go.Proofs

theorem rem_in {U Y : Int} (hU : InU U) (hY : 2147483648 ≤ Y ∧ Y < 4294967296) : 0 ≤ IntKind.u64.wrap (U - IntKind.u64.wrap (IntKind.u64.wrap (U.tdiv Y) * Y)) ∧ IntKind.u64.wrap (U - IntKind.u64.wrap (IntKind.u64.wrap (U.tdiv Y) * Y)) < 4294967296 := by
  have h1 := hU.1
  have h2 := hU.2
  rw [Int.tdiv_eq_ediv_of_nonneg h1]
  have hm := Int.emod_nonneg U (show Y ≠ 0 by omega)
  have hm2 := Int.emod_lt_of_pos U (show 0 < Y by omega)
  have he := Int.mul_ediv_add_emod U Y
  have hd : 0 ≤ U / Y := Int.ediv_nonneg h1 (by omega)
  have hz : 0 ≤ Y * (U / Y) := Int.mul_nonneg (by omega) hd
  have hd2 : U / Y ≤ U := Int.ediv_le_self _ h1
  rw [wrap_u64 (U / Y), Int.emod_eq_of_lt hd (by omega), Int.mul_comm (U / Y) Y]
  generalize Y * (U / Y) = Z at he hz
  rw [wrap_u64 Z, Int.emod_eq_of_lt (by omega) (by omega), wrap_u64, Int.emod_eq_of_lt (by omega) (by omega)]
  omega
def shN (y : Int) : Int := IntKind.u64.wrap (IntKind.i64.wrap (64 - lenM y))
def ynM (y : Int) : Int := shrV .u64 (shlV .u64 y (shN y)) 32
theorem div64_ex {hi lo y : Int} (hhi : InU hi) (hlo : InU lo) (hy : InU y) (hlt : hi < y) (H : MH) : Spec Tryd.prog 106 [u64 hi, u64 lo, u64 y] H fun v H' => ∃ t : Int × Int, (InU t.1 ∧ InU t.2) ∧ v = .tup [u64 t.1, u64 t.2] ∧ H' = H := by
  have h1 := hhi.1
  have y0 : (y = 0) = False := eq_false (by omega)
  have yl : (y ≤ hi) = False := eq_false (by omega)
  have hshr : ∀ x, ¬ IntKind.u64.wrap x < 0 := fun x => by have := (wrap_inU x).1; omega
  have hn := norm_in hy (by omega)
  have hq : (shrV .u64 (shlV .u64 y (IntKind.u64.wrap (IntKind.i64.wrap (64 - lenM y)))) 32 = 0) = False := eq_false (by omega)
  have hin1 : InU (shlV .u64 y (IntKind.u64.wrap (IntKind.i64.wrap (64 - lenM y)))) := shl_inU _ _
  refine Spec.scalarE (G := fun t : Int × Int => InU t.1 ∧ InU t.2) (r := fun t : Int × Int => .tup [u64 t.1, u64 t.2]) (enterS Tryd.func106 [.tmp 6, .tmp 7] ?_)
  repeat' first | (with_reducible (show W _ _ _ _ _); with_reducible refine go2 ?_) | (with_reducible (show W _ _ _ _ _); with_reducible refine sg2 ?_ ?_ <;> intro _) | (with_reducible (show W _ _ _ _ _); with_reducible refine sc2 ?_ ?_ <;> intro _) | (with_reducible (show CallK _ _ _ _ _ _ _ _ _ _ _); with_reducible refine ce2 (lz_spec hy _) ?_) | (with_reducible (show W _ _ (.code (.region 6 _ true) :: _) _ _); with_reducible refine W_draw [(0, []), (1, []), (2, []), (3, []), (4, []), (5, []), (6, []), (7, [])] [] (by kernel_rfl) ?_)
  · have h2 := hlo.1
    have h3 := hlo.2
    have h4 := hy.2
    have ht : InU (lo.tmod y) := by
      rw [Int.tmod_eq_emod_of_nonneg h2]
      exact ⟨Int.emod_nonneg _ (by omega), by have := Int.emod_lt_of_pos lo (show 0 < y by omega); omega⟩
    exact ⟨(IntKind.u64.wrap (lo.tdiv y), lo.tmod y), ⟨wrap_inU _, ht⟩, rfl⟩
  have hnY : 2147483648 ≤ ynM y ∧ ynM y < 4294967296 := hn
  have hqY : (ynM y = 0) = False := hq
  have hS : ¬ shN y < 0 := hshr _
  have hrem : ∀ U, InU U → 0 ≤ IntKind.u64.wrap (U - IntKind.u64.wrap (IntKind.u64.wrap (U.tdiv (ynM y)) * ynM y)) ∧ IntKind.u64.wrap (U - IntKind.u64.wrap (IntKind.u64.wrap (U.tdiv (ynM y)) * ynM y)) < 4294967296 ∧
      4294967296 ≤ IntKind.u64.wrap (U - IntKind.u64.wrap (IntKind.u64.wrap (U.tdiv (ynM y)) * ynM y)) + ((2 : Nat) : Int) * 2147483648 := fun U hU => by
    have := rem_in hU hnY
    omega
  refine W_for (fun j ρ H' => ∃ (y' yn0 un32 un1 un0 q rh : Int), 0 ≤ rh ∧ rh < 4294967296 ∧ 4294967296 ≤ rh + j * 2147483648 ∧ ρ 2 = u64 y' ∧ ρ 8 = u64 (shN y) ∧ ρ 9 = u64 (ynM y) ∧ ρ 10 = u64 yn0 ∧ ρ 11 = u64 un32 ∧ ρ 13 = u64 un1 ∧ ρ 14 = u64 un0 ∧ ρ 15 = u64 q ∧ ρ 16 = u64 rh ∧ H' = H) 2 ?_ ?_
  · exact ⟨_, _, _, _, _, _, _, (hrem _ (bits_inU _ _ _)).1, (hrem _ (bits_inU _ _ _)).2.1, (hrem _ (bits_inU _ _ _)).2.2, rfl, rfl, rfl, rfl, rfl, rfl, rfl, rfl, rfl, rfl⟩
  clear hn hq hin1
  rintro j ρ H' ⟨y', yn0, un32, un1, un0, q, rh, hr0, hr1, hr2, h2, h8, h9, h10, h11, h13, h14, h15, h16, rfl⟩
  have hY1 := hnY.1
  have hY2 := hnY.2
  have ew : IntKind.u64.wrap (rh + ynM y) = rh + ynM y := by rw [wrap_u64]; omega
  repeat' first | (with_reducible (show W _ _ _ _ _); with_reducible refine go2 ?_) | (with_reducible (show W _ _ _ _ _); with_reducible refine sg2 ?_ ?_ <;> intro _) | (with_reducible (show W _ _ _ _ _); with_reducible refine sc2 ?_ ?_ <;> intro _) | (with_reducible (show W _ _ (.code (.region 6 _ true) :: _) _ _); with_reducible refine W_draw [(0, []), (1, []), (2, []), (3, []), (4, []), (5, []), (6, []), (7, [])] [] (by kernel_rfl) ?_)
  all_goals first
    | (refine ⟨j - 1, by omega, y', yn0, un32, un1, un0, IntKind.u64.wrap (q - 1), rh + ynM y, by omega, by omega, by omega, ?_⟩; simp; done)
    | skip
  all_goals first
    | refine W_for (fun j ρ H'' => ∃ (y' yn0 un0 q u21 q0 rh : Int), 0 ≤ rh ∧ rh < 4294967296 ∧ 4294967296 ≤ rh + j * 2147483648 ∧ ρ 2 = u64 y' ∧ ρ 8 = u64 (shN y) ∧ ρ 9 = u64 (ynM y) ∧ ρ 10 = u64 yn0 ∧ ρ 14 = u64 un0 ∧ ρ 15 = u64 q ∧ ρ 17 = u64 u21 ∧ ρ 18 = u64 q0 ∧ ρ 16 = u64 rh ∧ H'' = H') 2 ⟨_, _, _, _, _, _, _, (hrem _ (wrap_inU _)).1, (hrem _ (wrap_inU _)).2.1, (hrem _ (wrap_inU _)).2.2, h2, h8, h9, h10, h14, h15, rfl, rfl, rfl, rfl⟩ ?_
    | refine W_for (fun j ρ H'' => ∃ (y' yn0 un0 q u21 q0 rh : Int), 0 ≤ rh ∧ rh < 4294967296 ∧ 4294967296 ≤ rh + j * 2147483648 ∧ ρ 2 = u64 y' ∧ ρ 8 = u64 (shN y) ∧ ρ 9 = u64 (ynM y) ∧ ρ 10 = u64 yn0 ∧ ρ 14 = u64 un0 ∧ ρ 15 = u64 q ∧ ρ 17 = u64 u21 ∧ ρ 18 = u64 q0 ∧ ρ 16 = u64 rh ∧ H'' = H') 2 ⟨_, _, _, _, _, _, _, (hrem _ (wrap_inU _)).1, (hrem _ (wrap_inU _)).2.1, (hrem _ (wrap_inU _)).2.2, h2, h8, h9, h10, h14, rfl, rfl, rfl, rfl, rfl⟩ ?_
  all_goals clear h2 h8 h9 h10 h11 h13 h14 h15 h16 ew hr0 hr1 hr2
  all_goals rintro j ρ H'' ⟨y', yn0, un0, q, u21, q0, rh, hr0, hr1, hr2, h2, h8, h9, h10, h14, h15, h17, h18, h16, rfl⟩
  all_goals have ew : IntKind.u64.wrap (rh + ynM y) = rh + ynM y := by rw [wrap_u64]; omega
  all_goals (repeat' first | (with_reducible (show W _ _ _ _ _); with_reducible refine go2 ?_) | (with_reducible (show W _ _ _ _ _); with_reducible refine sg2 ?_ ?_ <;> intro _) | (with_reducible (show W _ _ _ _ _); with_reducible refine sc2 ?_ ?_ <;> intro _) | (with_reducible (show W _ _ (.code (.region 6 _ true) :: _) _ _); with_reducible refine W_draw [(0, []), (1, []), (2, []), (3, []), (4, []), (5, []), (6, []), (7, [])] [] (by kernel_rfl) ?_))
  all_goals first
    | (refine ⟨j - 1, by omega, y', yn0, un0, q, u21, IntKind.u64.wrap (q0 - 1), rh + ynM y, by omega, by omega, by omega, ?_⟩; simp; done)
    | exact ⟨(IntKind.u64.wrap _, shrV .u64 (IntKind.u64.wrap _) _), ⟨wrap_inU _, shr_inU (wrap_inU _) _⟩, rfl⟩

theorem wdiv_ex {w : W2} (hw : InW w) {b : Int} (hb : InU b) (H : MH) : Spec Tryd.prog 97 [wd w, u64 b] H fun v H' => ∃ t : Int × Int × Bool, (InU t.1 ∧ InU t.2.1) ∧ v = .tup [u64 t.1, u64 t.2.1, bl t.2.2] ∧ H' = H := by
  refine Spec.scalarE (G := fun t : Int × Int × Bool => InU t.1 ∧ InU t.2.1) (r := fun t : Int × Int × Bool => .tup [u64 t.1, u64 t.2.1, bl t.2.2]) (enterS Tryd.func97 [.tmp 4, .tmp 5, .tmp 6] ?_)
  repeat' first | (with_reducible (show W _ _ _ _ _); with_reducible refine go2 ?_) | (with_reducible (show W _ _ _ _ _); with_reducible refine sg2 ?_ ?_ <;> intro _) | (with_reducible (show W _ _ _ _ _); with_reducible refine sc2 ?_ ?_ <;> intro _) | ((with_reducible (show CallK _ _ _ _ _ _ _ _ _ _ _); with_reducible refine cx2 (div64_ex hw.1 hw.2 hb (by omega) _) ?_; rintro u H' ⟨⟨q, r⟩, ⟨hq, hr⟩, rfl, rfl⟩))
  all_goals first
    | exact ⟨(0, 0, false), ⟨zero_in, zero_in⟩, rfl⟩
    | exact ⟨(q, r, true), ⟨hq, hr⟩, rfl⟩
theorem wlen53 {m : Int} (h : 0 ≤ m ∧ m < 9007199254740992) : 0 ≤ wlenM (0, m) ∧ wlenM (0, m) ≤ 53 := by
  have hl := lenM_le m
  unfold wlenM
  rw [if_pos rfl]
  refine ⟨hl.1, ?_⟩
  dsimp only
  obtain ⟨L, h1, h2, h3, h4⟩ := lenM_ln (x := m) ⟨h.1, by omega⟩
  rw [h1]
  rcases Int.lt_or_le 0 m with hm | hm
  · have h4 := h4 hm
    have : L < 54 := by
      rcases Nat.lt_or_ge L 54 with h | h
      · exact h
      · have : (2 : Int) ^ 54 ≤ 2 ^ L := by
          have := Nat.pow_le_pow_right (show 0 < 2 by decide) h
          exact_mod_cast this
        have e : (2 : Int) ^ 54 = 18014398509481984 := by decide
        omega
    omega
  · have : m = 0 := by omega
    subst this
    have : lenM 0 = 0 := by decide
    omega
theorem parts53 {a : Int} (h : InU a) : 0 ≤ (partsM a).1 ∧ (partsM a).1 < 9007199254740992 := by
  have hf := fracM_eq h
  have h1 := h.1
  have hor : bits .or .u64 (fracM a) 4503599627370496 = fracM a + 4503599627370496 := by
    rw [hf]
    have : ∀ x : Int, 0 ≤ x → x < 4503599627370496 → bits .or .u64 x 4503599627370496 = x + 4503599627370496 := fun x h h' => by go_bits2
    exact this _ (by omega) (by omega)
  unfold partsM
  split
  · dsimp only; omega
  · split
    · dsimp only; omega
    · exact ⟨by decide, by decide⟩
end Go.Proofs.YtcikcinkjbbnhaaDoor.M

/- Quotients of patterns. -/
set_option linter.unusedSimpArgs false
set_option linter.unusedVariables false
set_option maxRecDepth 10000
set_option maxHeartbeats 8000000
namespace Go.Proofs.YtcikcinkjbbnhaaDoor.M
open Go Go.Proofs

theorem div_ex {a b : Int} (ha : InU a) (hb : InU b) (H : MH) : Spec Tryd.prog 80 [u64 a, u64 b] H fun v H' => ∃ t : Int × Int, InU t.1 ∧ v = .tup [u64 t.1, u8 t.2] ∧ H' = H := by
  have hbs := bsV_two
  have hm := parts53 ha
  have hn := parts53 hb
  have hmw : InW (0, (partsM a).1) := ⟨zero_in, parts_in ha⟩
  have hnw : InW (0, (partsM b).1) := ⟨zero_in, parts_in hb⟩
  have l1 := wlen53 hm
  have l2 := wlen53 hn
  have s1 : ¬ IntKind.i64.wrap (IntKind.i64.wrap (53 - wlenM (0, (partsM a).1)) + 10) < 0 := by rw [wrap_i64 (n := 53 - wlenM (0, (partsM a).1)) (by omega), wrap_i64 (by omega)]; omega
  have s2 : ¬ IntKind.i64.wrap (64 - wlenM (0, (partsM b).1)) < 0 := by rw [wrap_i64 (by omega)]; omega
  refine Spec.scalarE (G := fun t : Int × Int => InU t.1) (r := fun t : Int × Int => .tup [u64 t.1, u8 t.2]) (enterS Tryd.func80 [.tmp 4, .tmp 5] ?_)
  repeat' first | (with_reducible (show W _ _ _ _ _); with_reducible refine go2 ?_) | (with_reducible (show W _ _ _ _ _); with_reducible refine sg2 ?_ ?_ <;> intro _) | (with_reducible (show W _ _ _ _ _); with_reducible refine sc2 ?_ ?_ <;> intro _) | (with_reducible (show CallK _ _ _ _ _ _ _ _ _ _ _); with_reducible refine ce2 (nan_spec _ _ slice_new) ?_) | (with_reducible (show CallK _ _ _ _ _ _ _ _ _ _ _); with_reducible refine ce2 (neg_spec _ _) ?_) | (with_reducible (show CallK _ _ _ _ _ _ _ _ _ _ _); with_reducible refine ce2 (kind_spec _ _) ?_) | (with_reducible (show CallK _ _ _ _ _ _ _ _ _ _ _); with_reducible refine ce2 (make_spec _ _ _ _) ?_) | (with_reducible (show CallK _ _ _ _ _ _ _ _ _ _ _); with_reducible refine ce2 (parts_spec _ _) ?_) | (with_reducible (show CallK _ _ _ _ _ _ _ _ _ _ _); with_reducible refine ce2 (wlen_spec (a := (0, _)) hmw _) ?_) | (with_reducible (show CallK _ _ _ _ _ _ _ _ _ _ _); with_reducible refine ce2 (wlen_spec (a := (0, _)) hnw _) ?_) | (with_reducible (show CallK _ _ _ _ _ _ _ _ _ _ _); with_reducible refine ce2 (round_spec _ (w := (0, _)) ⟨zero_in, hq⟩ _ _ _) ?_) | (with_reducible (show W _ _ (.code (.region 18 _ true) :: _) _ _); with_reducible refine W_draw [(0, []), (1, []), (2, []), (3, []), (4, []), (5, []), (6, []), (7, []), (8, []), (9, []), (10, []), (11, [])] [] (by kernel_rfl) ?_) | ((with_reducible (show CallK _ _ _ _ _ _ _ _ _ _ _); with_reducible refine cx2 (wdiv_ex (w := (_, 0)) ⟨shl_inU _ _, zero_in⟩ (shl_inU _ _) _) ?_; rintro u H' ⟨⟨q, r, o⟩, ⟨hq, hr⟩, rfl, rfl⟩))
  all_goals first
    | exact ⟨(_, _), quiet_in, rfl⟩
    | exact ⟨(_, _), make_in _ _ _, rfl⟩
    | exact ⟨(_, _), roundM_in _ _ _ _, rfl⟩
theorem cdiv_ex {a b : Int} (ha : InU a) (hb : InU b) (g : Int) {H : MH} {p : Nat} (hp : hget H p = some ⟨[u8 g], true⟩) : Spec Tryd.prog 55 [.ptr p 0, u64 a, u64 b] H fun v H' => ∃ t : Int × Int, InU t.1 ∧ v = u64 t.1 ∧ H' = H.set p (some ⟨[u8 t.2], true⟩) := by
  refine enterS Tryd.func55 [.tmp 6] ?_
  repeat' first | (with_reducible (show W _ _ _ _ _); with_reducible refine go2 ?_) | (with_reducible (show W _ _ _ _ _); with_reducible refine sg2 ?_ ?_ <;> intro _) | (with_reducible (show W _ _ _ _ _); with_reducible refine sc2 ?_ ?_ <;> intro _) | ((with_reducible (show CallK _ _ _ _ _ _ _ _ _ _ _); first | (with_reducible refine cM (note_spec _ _ _ hp) ?_) | (with_reducible refine cx2 (div_ex ha hb _) ?_; rintro u H' ⟨⟨q, f⟩, hq, rfl, rfl⟩)))
  all_goals exact ⟨(q, bits .or .u8 g f), hq, rfl, rfl⟩

/-- What was there is as it was. -/
def Old (H C : MH) : Prop := H.length ≤ C.length ∧ ∀ q, q < H.length → C[q]? = H[q]?
theorem Old.refl (H : MH) : Old H H := ⟨Nat.le_refl _, fun _ _ => rfl⟩
theorem Old.app {H C : MH} (h : Old H C) (L : MH) : Old H (C ++ L) := ⟨by rw [List.length_append]; have := h.1; omega, fun q hq => by have := h.1; rw [List.getElem?_append_left (by omega)]; exact h.2 q hq⟩
theorem Old.setq {H C : MH} (h : Old H C) {q : Nat} (x : Option MO) (hq : H.length ≤ q) : Old H (C.set q x) := ⟨by rw [List.length_set]; exact h.1, fun r hr => by rw [List.getElem?_set_ne (by omega)]; exact h.2 r hr⟩
theorem Old.get {H C : MH} (h : Old H C) {p : Nat} {o : MO} (hp : hget H p = some o) : hget C p = some o := by
  have := lt_of_hget hp
  unfold hget at hp ⊢
  rw [h.2 p this]; exact hp
theorem Old.sl {H C : MH} (h : Old H C) {v : MV} {xs : List Int} (hv : Sl H v xs) : Sl C v xs := by
  rcases hv with ⟨h1, a, h2⟩ | ⟨p, o, c, ob, h1, h2, h3⟩
  · exact .inl ⟨h1, a, h2⟩
  · exact .inr ⟨p, o, c, ob, h1, h.get h2, h3⟩
/-- Of what is new one object is kept, wherever it stands; how the answer looks hangs on what isn't told. -/
theorem Spec.oneX {P : Program} {f : FuncId} {args : List MV} {H : MH} {T : Type} {G : T → Prop} {v : T → Nat → MV} {cs : T → List MV} (hcs : ∀ t, ∀ c ∈ cs t, Cl 0 [] c) (hv : ∀ t p, Cl H.length [p] (v t p)) (hr : ∀ t π p, H.length ≤ p → ren π (v t p) = v t (π p))
    (h : Spec P f args H fun u H' => ∃ t p, G t ∧ u = v t p ∧ H.length ≤ p ∧ hget H' p = some ⟨cs t, true⟩ ∧ Old H H') : Spec P f args H fun u H' => ∃ t, G t ∧ u = v t H.length ∧ H' = H ++ [some ⟨cs t, true⟩] := by
  refine Spec.gc h ?_
  rintro u H1 ⟨t, p, hG, rfl, hp, hg, hold⟩
  have ht : H1.take H.length = H := by
    apply List.ext_getElem?
    intro i
    rw [List.getElem?_take]
    split
    · exact hold.2 i (by assumption)
    · rw [List.getElem?_eq_none (by omega)]
  have he : H1 = H ++ H1.drop H.length := by rw [← ht, List.length_take, Nat.min_eq_left hold.1, List.take_append_drop]
  have hk : keep H.length [p] p = H.length := by
    unfold keep
    rw [if_neg (by omega)]
    simp
  refine ⟨H, H1.drop H.length, [p], he, rfl, by simp, by simp; omega, fun p o ho => .inl ho, ?_, hv _ _, t, hG, ?_, ?_⟩
  · intro x hx o ho c hc
    simp only [List.mem_singleton] at hx
    subst hx
    rw [hg] at ho
    cases ho
    exact cl_more (cl_mono (Nat.zero_le H.length) c (hcs t c hc))
  · rw [hr _ _ _ (by omega), hk]
  · simp only [List.map_cons, List.map_nil, keptO, hg, Option.map_some]
    congr 3
    congr 1
    exact (List.map_congr_left fun c hc => ren_free c (hcs t c hc)).trans (List.map_id' _)
/-- A list that grows, of what a function tells. -/
def Ys (H C : MH) (col : Nat → Int) (m : Nat) (v : MV) : Prop := (m = 0 ∧ v = .lit (.slice none 0 0)) ∨
  ∃ px c, v = .slice px 0 m c 1 ∧ m ≤ c ∧ hget C px = some ⟨((List.range m).map col).map u64, true⟩ ∧ H.length ≤ px
theorem app_ys {P : Program} {Q : MQ} {H C : MH} (hC : Old H C) {col : Nat → Int} {m : Nat} {v : MV} (hx : Ys H C col m v) (hm : m ≤ 10000000) {t : TypeId} (ht : (ty P t).k = .slice 1 8 (some [.int .u64 0]) true)
    {a : Int} (ha : a = col m) {c1 : Nat} {d L l k ρ} (h : ∀ v' C', Old H C' → Ys H C' col (m + 1) v' → W P Q (.run l [] :: k) (put ρ d v') C') :
    AppK P Q (appV P #[t, t] v (.slice C.length 0 1 c1 1) (C ++ [some ⟨[u64 a], true⟩])) (C.length + 1) d L l [] k ρ := by
  subst ha
  have hnew : hget (C ++ [some ⟨[u64 (col m)], true⟩]) C.length = some ⟨[u64 (col m)], true⟩ := hget_append_new
  have htl : tailV 1 (.slice C.length 0 1 c1 1) (C ++ [some ⟨[u64 (col m)], true⟩]) = some ([u64 (col m)], 1) := by
    simp [tailV, cellsAt_eq, hnew]
  have hCl := hC.1
  have hat : ∀ (A : MH) (o : MO) (k : Nat), k = A.length → hget (A ++ [some o]) k = some o := fun A o k hk => by subst hk; exact hget_append_new
  rcases hx with ⟨rfl, rfl⟩ | ⟨px, c, rfl, hmc, hpx, h1⟩
  · have : appV P #[t, t] (.lit (.slice none 0 0)) (.slice C.length 0 1 c1 1) (C ++ [some ⟨[u64 (col 0)], true⟩]) = some (some ([u64 (col 0)], 1, 1), C ++ [some ⟨[u64 (col 0)], true⟩] ++ [some ⟨[u64 (col 0)], true⟩]) := by
      refine appV_of ?_
      unfold appV0
      simp [ht, htl, one]
    rw [this]
    simp only [AppK, held_nil, true_and]
    intro c hc
    refine h _ _ ((hC.app _).app _) (.inr ⟨_, c, rfl, hc, ?_, ?_⟩)
    · exact hat _ _ _ (by simp)
    · omega
  · have hpo : hget (C ++ [some ⟨[u64 (col m)], true⟩]) px = some ⟨((List.range m).map col).map u64, true⟩ := hget_appL hpx
    have : appV P #[t, t] (.slice px 0 m c 1) (.slice C.length 0 1 c1 1) (C ++ [some ⟨[u64 (col m)], true⟩]) = some (some (((List.range (m + 1)).map col).map u64, m + 1, 1), (C ++ [some (MO.mk [u64 (col m)] true)]).set px none ++ [some ⟨((List.range (m + 1)).map col).map u64, true⟩]) := by
      have hr : ((List.range (m + 1)).map col).map u64 = ((List.range m).map col).map u64 ++ [u64 (col m)] := by simp [List.range_succ]
      rw [hr]
      refine appV_of ?_
      unfold appV0
      simp [ht, htl, one, hpo, show m + 1 ≤ 68719476736 by omega]
    rw [this]
    simp only [AppK, held_nil, true_and]
    intro c hc
    refine h _ _ (((hC.app _).setq _ h1).app _) (.inr ⟨_, c, rfl, hc, ?_, ?_⟩)
    · exact hat _ _ _ (by simp)
    · omega
end Go.Proofs.YtcikcinkjbbnhaaDoor.M

/- Lists divided by a power of two; the root of the sum of squares. -/
set_option linter.unusedSimpArgs false
set_option linter.unusedVariables false
set_option maxRecDepth 10000
set_option maxHeartbeats 8000000
namespace Go.Proofs.YtcikcinkjbbnhaaDoor.M
open Go Go.Proofs

def clamp2 (e : Int) : Int := if -20000 < (if 20000 < e then 20000 else e) then (if 20000 < e then 20000 else e) else -20000
def unitL (xs : List Int) (e : Int) : List Int := (List.range xs.length).map fun i => (scaleM (xs.getD i 0) (IntKind.i64.wrap (0 - clamp2 e))).1
theorem unitL_len (xs : List Int) (e : Int) : (unitL xs e).length = xs.length := by simp [unitL]
theorem unitL_in {xs : List Int} (h : InD xs) (e : Int) : InD (unitL xs e) := by
  intro x hx
  simp only [unitL, List.mem_map] at hx
  obtain ⟨i, _, rfl⟩ := hx
  exact scaleM_in (getD_in h i) _
theorem vunit_spec {H : MH} {v : MV} {xs : List Int} (hv : Sl H v xs) (hI : InD xs) (e : Int) (hlen0 : 0 < xs.length ∧ xs.length ≤ 1000000) : Spec Tryd.prog 51 [v, i64 e] H fun u H' => ∃ c : Nat, xs.length ≤ c ∧ u = .slice H.length 0 xs.length c 1 ∧ H' = H ++ [some ⟨(unitL xs e).map u64, true⟩] := by
  have hlen := len22 hv
  refine Spec.oneX (G := fun c => xs.length ≤ c) (v := fun c p => .slice p 0 xs.length c 1) (cs := fun _ => (unitL xs e).map u64) (fun _ => closed_u64 _) (fun c p => by simp [Cl, Cls']) (fun c π p _ => by simp [ren, rens]) ?_
  refine enterS Tryd.func51 [.tmp 4] ?_
  repeat' first | (with_reducible (show W _ _ _ _ _); with_reducible refine go2 ?_) | (with_reducible (show W _ _ _ _ _); with_reducible refine sg2 ?_ ?_ <;> intro _) | (with_reducible (show W _ _ _ _ _); with_reducible refine sc2 ?_ ?_ <;> intro _)
  refine W_for (fun j ρ C => ∃ m : Nat, m + j = xs.length ∧ ρ 1 = i64 (clamp2 e) ∧ ρ 13 = v ∧ ρ 14 = i64 (xs.length : Int) ∧ ρ 15 = i64 m ∧ Old H C ∧ Ys H C (fun i => (scaleM (xs.getD i 0) (IntKind.i64.wrap (0 - clamp2 e))).1) m (ρ 5)) xs.length ?_ ?_
  · refine ⟨0, by omega, rfl, rfl, rfl, rfl, Old.refl H, .inl ⟨rfl, rfl⟩⟩
  rintro j ρ C ⟨m, hm, h1, h13, h14, h15, hC, hx⟩
  have hvC := hC.sl hv
  have hia2 : (m : Int) < xs.length → iaV (.slice 1 8 (some [.int .u64 0]) true) v (.lit (.int .i64 m)) = some (ixq v m) := fun h => hvC.ia (by omega) _ _ _ _
  have hld2 : (m : Int) < xs.length → loadV Tryd.prog 24 (ixq v m) C = some (u64 (xs.getD m 0)) := fun h => hvC.ld (by rw [ty_24]) (by rw [ty_24]) (by omega)
  have hin := getD_in hI m
  have hty : (ty Tryd.prog 22).k = .slice 1 8 (some [.int .u64 0]) true := by rw [ty_22]
  have hbs : ∀ x : Int, bsV (.slice 1 8 (some [.int .u64 0]) true) 1 [(0, u64 x)] = some ([u64 x], 1) := fun x => _root_.id rfl
  have e1 : (m : Int) < xs.length → IntKind.i64.wrap ((m : Int) + 1) = ((m + 1 : Nat) : Int) := fun h => by rw [wrap_i64 (by omega)]; omega
  repeat' first | (with_reducible (show W _ _ _ _ _); with_reducible refine go2 ?_) | (with_reducible (show W _ _ _ _ _); with_reducible refine sg2 ?_ ?_ <;> intro _) | (with_reducible (show W _ _ _ _ _); with_reducible refine sc2 ?_ ?_ <;> intro _) | (with_reducible (show CallK _ _ _ _ _ _ _ _ _ _ _); with_reducible refine ce2 (scale_spec hin _ _) ?_) | ((with_reducible (show AppK _ _ _ _ _ _ _ _ _ _); with_reducible refine app_ys hC hx (by omega) hty rfl ?_; rintro v' C' hC' hx'))
  · exact ⟨j - 1, by omega, m + 1, by omega, rfl, hx'⟩
  · have hm2 : m = xs.length := by omega
    subst hm2
    rcases hx with ⟨h0, _⟩ | ⟨px, c, h5, hc, hp, hl⟩
    · omega
    · exact ⟨c, px, hc, h5, hl, hp⟩

/-- The root of the sum of squares, with nobody to remember. -/
def sqsS (U : List Int) (n : Nat) : Int × Int := iter (fun i s => ((addM s.1 (mulM (U.getD i 0) (U.getD i 0)).1).1, bits .or .u8 (bits .or .u8 s.2 (mulM (U.getD i 0) (U.getD i 0)).2) (addM s.1 (mulM (U.getD i 0) (U.getD i 0)).1).2)) n (0, 0)
theorem sqsS_in (U : List Int) : ∀ n, InU (sqsS U n).1
  | 0 => zero_in
  | n + 1 => addM_in (sqsS_in U n) (mulM_in _ _)
theorem sqsS_succ (U : List Int) (n : Nat) : sqsS U (n + 1) = ((addM (sqsS U n).1 (mulM (U.getD n 0) (U.getD n 0)).1).1, bits .or .u8 (bits .or .u8 (sqsS U n).2 (mulM (U.getD n 0) (U.getD n 0)).2) (addM (sqsS U n).1 (mulM (U.getD n 0) (U.getD n 0)).1).2) := rfl
def nrm2M (xs : List Int) : Int := if (powerM xs).2 = true then (scaleM (sqrtM (sqsS (unitL xs (powerM xs).1) xs.length).1).1 (powerM xs).1).1 else (greatM xs).1
theorem nrm2M_in (xs : List Int) : InU (nrm2M xs) := by
  unfold nrm2M
  split
  · exact scaleM_in (sqrtM_in (sqsS_in _ _)) _
  · exact great_in
theorem nrm2_spec {H : MH} {v : MV} {xs : List Int} (hv : Sl H v xs) (hI : InD xs) (hlen0 : 0 < xs.length ∧ xs.length ≤ 1000000) : Spec Tryd.prog 52 [nilp, v] H fun u H' => u = u64 (nrm2M xs) ∧ H' = H := by
  refine Spec.scalar (enterS Tryd.func52 [.tmp 4] ?_)
  repeat' first | (with_reducible (show W _ _ _ _ _); with_reducible refine go2 ?_) | (with_reducible (show W _ _ _ _ _); with_reducible refine sg2 ?_ ?_ <;> intro _) | (with_reducible (show W _ _ _ _ _); with_reducible refine sc2 ?_ ?_ <;> intro _) | (with_reducible (show CallK _ _ _ _ _ _ _ _ _ _ _); with_reducible refine ce2 (power_spec hv hlen0.2) ?_) | (with_reducible (show CallK _ _ _ _ _ _ _ _ _ _ _); with_reducible refine ce2 (great_spec hv hlen0.2) ?_) | ((with_reducible (show CallK _ _ _ _ _ _ _ _ _ _ _); with_reducible refine cx2 (vunit_spec (Sl.app hv _) hI _ hlen0) ?_; rintro u H' ⟨c, hc, rfl, rfl⟩))
  · rename_i h0
    unfold nrm2M
    rw [if_neg (by rw [h0]; decide)]
  rename_i h0
  have hUl := unitL_len xs (powerM xs).1
  generalize hUe : unitL xs (powerM xs).1 = U at hUl
  refine W_for (fun j ρ H' => ∃ k : Nat, k + j = xs.length ∧ ρ 0 = nilp ∧ ρ 5 = i64 (powerM xs).1 ∧ ρ 9 = .ptr H.length 0 ∧ ρ 10 = u64 (sqsS U k).1 ∧ ρ 31 = .slice (H.length + 1) 0 xs.length c 1 ∧ ρ 32 = i64 (xs.length : Int) ∧ ρ 33 = i64 k ∧
    H' = H ++ [some ⟨[u8 (sqsS U k).2], true⟩, some ⟨U.map u64, true⟩]) xs.length ?_ ?_
  · refine ⟨0, by omega, ?_⟩
    simp [put, args0, sqsS, iter]
  rintro j ρ H' ⟨k, hk, h0', h5, h9, h10, h31, h32, h33, rfl⟩
  have f3 : ∀ m : Nat, (0 ≤ (m : Int)) = True := fun m => eq_true (by omega)
  have f5 : ∀ m : Nat, (m : Int).toNat = m := fun m => Int.toNat_natCast m
  have f6 : ∀ m : Nat, m * 1 = m := Nat.mul_one
  have f7 : (k : Int) < xs.length → (U.map u64)[k]? = some (u64 (U.getD k 0)) := fun h => by
    have : k < U.length := by omega
    simp [List.getD_eq_getElem?_getD, this]
  have hcell : ∀ (g : Int) (L : MH), hget (H ++ some ⟨[u8 g], true⟩ :: L) H.length = some ⟨[u8 g], true⟩ := fun g L => by unfold hget; simp
  have hsi := sqsS_in U k
  have e1 : (k : Int) < xs.length → IntKind.i64.wrap ((k : Int) + 1) = ((k + 1 : Nat) : Int) := fun h => by rw [wrap_i64 (by omega)]; omega
  have hsq := sqrtM_in hsi
  repeat' first | (with_reducible (show W _ _ _ _ _); with_reducible refine go2 ?_) | (with_reducible (show W _ _ _ _ _); with_reducible refine sg2 ?_ ?_ <;> intro _) | (with_reducible (show W _ _ _ _ _); with_reducible refine sc2 ?_ ?_ <;> intro _) | (with_reducible (show CallK _ _ _ _ _ _ _ _ _ _ _); with_reducible refine ce2 (Note_nil _ _ _) ?_) | (with_reducible (show CallK _ _ _ _ _ _ _ _ _ _ _); with_reducible refine ce2 (sqrt_spec hsi _) ?_) | (with_reducible (show CallK _ _ _ _ _ _ _ _ _ _ _); with_reducible refine ce2 (scale_spec hsq _ _) ?_) | ((with_reducible (show CallK _ _ _ _ _ _ _ _ _ _ _); first | (with_reducible refine cM (cmul_spec _ _ _ (hcell _ _)) ?_) | (with_reducible refine cM (cadd_spec hsi (mulM_in _ _) _ (hcell _ _)) ?_)))
  · refine ⟨j - 1, by omega, k + 1, by omega, ?_, rfl, ?_⟩ <;> rw [sqsS_succ]
  · have hk2 : k = xs.length := by omega
    subst hk2
    unfold nrm2M
    rw [if_pos (by simpa using h0), hUe]
end Go.Proofs.YtcikcinkjbbnhaaDoor.M

/- The reflection of any list. -/
set_option linter.unusedSimpArgs false
set_option linter.unusedVariables false
set_option maxRecDepth 10000
set_option maxHeartbeats 8000000
namespace Go.Proofs.YtcikcinkjbbnhaaDoor.M
open Go Go.Proofs

def finL (xs : List Int) : Bool := xs.all finiteM
theorem hgen_err {H : MH} {v : MV} {xs : List Int} (hv : Sl H v xs) (hlen0 : xs.length ≤ 1000000) (hbad : xs.length = 0 ∨ finL xs = false) : Spec Tryd.prog 11 [v] H fun u H' => ∃ t : Int × Int, t.2 ≠ 0 ∧ u = .tup [.agg [.lit (.slice none 0 0), u64 0], u64 t.1, u8 0, i64 t.2] ∧ H' = H := by
  have hlen := len22 hv
  refine Spec.scalarE (G := fun t : Int × Int => t.2 ≠ 0) (r := fun t : Int × Int => .tup [.agg [.lit (.slice none 0 0), u64 0], u64 t.1, u8 0, i64 t.2]) (enterS Tryd.func11 [.cell 2 26, .tmp 3, .tmp 4, .tmp 5] ?_)
  repeat' first | (with_reducible (show W _ _ _ _ _); with_reducible refine go2 ?_) | (with_reducible (show W _ _ _ _ _); with_reducible refine sg2 ?_ ?_ <;> intro _) | (with_reducible (show W _ _ _ _ _); with_reducible refine sc2 ?_ ?_ <;> intro _) | (with_reducible (show W _ _ (.code (.region 12 _ true) :: _) _ _); with_reducible refine W_draw [(0, []), (1, []), (3, []), (4, []), (5, []), (2, [5]), (6, [5]), (7, []), (8, []), (9, [])] [5] (by kernel_rfl) ?_) | (with_reducible (show W _ _ (.code (.region 23 _ true) :: _) _ _); with_reducible refine W_draw [(0, []), (1, []), (2, []), (3, []), (4, [1]), (5, []), (6, []), (7, []), (8, [])] [1] (by kernel_rfl) ?_)
  · exact ⟨(0, 4), by decide, rfl⟩
  rename_i hne
  have hf : finL xs = false := by
    rcases hbad with h | h
    · exact absurd (by omega) hne
    · exact h
  refine W_for (fun j ρ H' => ∃ k : Nat, k + j = xs.length ∧ (∀ i, i < k → finiteM (xs.getD i 0) = true) ∧ ρ 2 = .ptr H.length 0 ∧ ρ 25 = v ∧ ρ 26 = i64 (xs.length : Int) ∧ ρ 27 = i64 k ∧ H' = H ++ [some ⟨[.lit (.slice none 0 0), u64 0], true⟩]) xs.length ?_ ?_
  · refine ⟨0, by omega, fun i hi => by omega, ?_⟩
    simp [put, args0]
  rintro j ρ H' ⟨k, hk, hall, h2, h25, h26, h27, rfl⟩
  replace hall : Hid2 (∀ i, i < k → finiteM (xs.getD i 0) = true) := hall
  have hia2 : (k : Int) < xs.length → iaV (.slice 1 8 (some [.int .u64 0]) true) v (.lit (.int .i64 k)) = some (ixq v k) := fun h => hv.ia (by omega) _ _ _ _
  have hld2 : ∀ (L : MH), (k : Int) < xs.length → loadV Tryd.prog 24 (ixq v k) (H ++ L) = some (u64 (xs.getD k 0)) := fun L h => (hv.app L).ld (by rw [ty_24]) (by rw [ty_24]) (by omega)
  have hend : ¬ (k : Int) < xs.length → False := fun h => by
    have : ∀ x ∈ xs, finiteM x = true := by
      intro x hx
      obtain ⟨i, hi, rfl⟩ := List.getElem_of_mem hx
      have := hall i (by omega)
      simpa [List.getD_eq_getElem?_getD, hi] using this
    have h2 : finL xs = true := List.all_eq_true.2 this
    rw [h2] at hf; cases hf
  by_cases hlt : (k : Int) < xs.length
  · repeat' first | (with_reducible (show W _ _ _ _ _); with_reducible refine go2 ?_) | (with_reducible (show W _ _ _ _ _); with_reducible refine sg2 ?_ ?_ <;> intro _) | (with_reducible (show W _ _ _ _ _); with_reducible refine sc2 ?_ ?_ <;> intro _) | (with_reducible (show CallK _ _ _ _ _ _ _ _ _ _ _); with_reducible refine ce2 (finite_spec _ _) ?_) | (with_reducible (show W _ _ (.code (.region 12 _ true) :: _) _ _); with_reducible refine W_draw [(0, []), (1, []), (3, []), (4, []), (5, []), (2, [5]), (6, [5]), (7, []), (8, []), (9, [])] [5] (by kernel_rfl) ?_) | (with_reducible (show W _ _ (.code (.region 23 _ true) :: _) _ _); with_reducible refine W_draw [(0, []), (1, []), (2, []), (3, []), (4, [1]), (5, []), (6, []), (7, []), (8, [])] [1] (by kernel_rfl) ?_)
    · exact ⟨(9221120237041090560, 6), by decide, rfl⟩
    · rename_i hf2
      refine ⟨j - 1, by omega, k + 1, by omega, fun i hi => ?_, by rw [wrap_suc (n := (xs.length : Int)) (by assumption) (by omega)]⟩
      by_cases e : i = k
      · subst e; simpa using hf2
      · exact hall i (by omega)
  · exact (hend hlt).elim
/-- What house.Gen answers: the list, its factor, its room, the first number, what was met. -/
structure GT where
  V : List Int
  tau : Int
  c : Nat
  b : Int
  f : Int
/-- The memory of house.Gen: a result, the list divided, what was met, the reflection (its list as it was written last), its list as it is. -/
structure Gd (H : MH) (U L : List Int) (tau : Int) (C : MH) (w v : MV) : Prop where
  old : Old H C
  c0 : hget C H.length = some ⟨[.lit (.slice none 0 0), u64 0], true⟩
  cU : hget C (H.length + 1) = some ⟨U.map u64, true⟩
  cg : ∃ g, hget C (H.length + 2) = some ⟨[u8 g], true⟩
  cr : hget C (H.length + 4) = some ⟨[w, u64 tau], true⟩
  cv : ∃ px c, v = .slice px 0 L.length c 1 ∧ L.length ≤ c ∧ hget C px = some ⟨L.map u64, true⟩ ∧ H.length + 2 < px ∧ px ≠ H.length + 4
theorem Gd.met {H : MH} {U L : List Int} {tau : Int} {C : MH} {w v : MV} (h : Gd H U L tau C w v) (g : Int) : Gd H U L tau (C.set (H.length + 2) (some ⟨[u8 g], true⟩)) w v := by
  obtain ⟨px, c, h1, h2, h3, h4, h5⟩ := h.cv
  have hl := lt_of_hget h.cr
  exact ⟨h.old.setq _ (by omega), (hget_set_ne (by omega) _).trans h.c0, (hget_set_ne (by omega) _).trans h.cU, ⟨g, hget_set_same (by omega) _⟩, (hget_set_ne (by omega) _).trans h.cr, px, c, h1, h2, (hget_set_ne (by omega) _).trans h3, h4, h5⟩
theorem Gd.put {H : MH} {U L : List Int} {tau : Int} {C : MH} {w v : MV} (h : Gd H U L tau C w v) : Gd H U L tau (C.set (H.length + 4) (some ⟨[v, u64 tau], true⟩)) v v := by
  obtain ⟨px, c, h1, h2, h3, h4, h5⟩ := h.cv
  obtain ⟨g, hg⟩ := h.cg
  have hl := lt_of_hget h.cr
  exact ⟨h.old.setq _ (by omega), (hget_set_ne (by omega) _).trans h.c0, (hget_set_ne (by omega) _).trans h.cU, ⟨g, (hget_set_ne (by omega) _).trans hg⟩, hget_set_same (by omega) _, px, c, h1, h2, (hget_set_ne (by omega) _).trans h3, h4, h5⟩
theorem Gd.cells {H : MH} {U L : List Int} {tau : Int} {C : MH} {w v : MV} (h : Gd H U L tau C w v) : cellsM v = [v] := by
  obtain ⟨px, c, rfl, _⟩ := h.cv; rfl
theorem Gd.ones {H : MH} {U L : List Int} {tau : Int} {C : MH} {w v : MV} (h : Gd H U L tau C w v) : one v = true := by
  obtain ⟨px, c, rfl, _⟩ := h.cv; rfl
theorem app_gd {P : Program} {Q : MQ} {H C : MH} {U L0 : List Int} {tau : Int} {w v : MV} (hC : Gd H U L0 tau C w v) (hm : L0.length ≤ 10000000) {t : TypeId} (ht : (ty P t).k = .slice 1 8 (some [.int .u64 0]) true)
    {a : Int} {c1 n0 : Nat} (hn0 : n0 = C.length) {d l F k ρ} (h : ∀ v' C', Gd H U (L0 ++ [a]) tau C' w v' → W P Q (.run l F :: k) (put ρ d v') C') :
    AppK P Q (appV P #[t, t] v (.slice n0 0 1 c1 1) (C ++ [some ⟨[u64 a], true⟩])) (n0 + 1) d [] l F k ρ := by
  subst hn0
  obtain ⟨px, c, rfl, h2, hpx, h4, h5⟩ := hC.cv
  obtain ⟨g, hg⟩ := hC.cg
  have hl := lt_of_hget hC.cr
  have hnew : hget (C ++ [some ⟨[u64 a], true⟩]) C.length = some ⟨[u64 a], true⟩ := hget_append_new
  have htl : tailV 1 (.slice C.length 0 1 c1 1) (C ++ [some ⟨[u64 a], true⟩]) = some ([u64 a], 1) := by
    simp [tailV, cellsAt_eq, hnew]
  have hat : ∀ (A : MH) (o : MO) (k : Nat), k = A.length → hget (A ++ [some o]) k = some o := fun A o k hk => by subst hk; exact hget_append_new
  have hpo : hget (C ++ [some ⟨[u64 a], true⟩]) px = some ⟨L0.map u64, true⟩ := hget_appL hpx
  have : appV P #[t, t] (.slice px 0 L0.length c 1) (.slice C.length 0 1 c1 1) (C ++ [some ⟨[u64 a], true⟩]) = some (some ((L0 ++ [a]).map u64, L0.length + 1, 1), (C ++ [some (MO.mk [u64 a] true)]).set px none ++ [some ⟨(L0 ++ [a]).map u64, true⟩]) := by
    have hr : (L0 ++ [a]).map u64 = L0.map u64 ++ [u64 a] := by simp
    rw [hr]
    refine appV_of ?_
    unfold appV0
    simp [ht, htl, one, hpo, show L0.length + 1 ≤ 68719476736 by omega]
  rw [this]
  simp only [AppK]
  intro c hc
  have keep : ∀ {q : Nat} {o : MO}, hget C q = some o → px ≠ q → hget ((C ++ [some (MO.mk [u64 a] true)]).set px none ++ [some ⟨(L0 ++ [a]).map u64, true⟩]) q = some o := fun {q o} hq hne => hget_appL ((hget_set_ne hne _).trans (hget_appL hq))
  refine ⟨held_none _ _ _, h _ _ ⟨((hC.old.app _).setq _ (by omega)).app _, keep hC.c0 (by omega), keep hC.cU (by omega), ⟨g, keep hg (by omega)⟩, keep hC.cr h5, C.length + 1, c, by simp, by simpa using hc, ?_, by omega, by omega⟩⟩
  exact hat _ _ _ (by simp)
/-- A call of which a kind is told, where something is held. -/
theorem cxh {g : FuncId} {Q : MQ} {k : List It} {ρ : Env} {H : MH} {args : List MV} {d L l F} {K : MV → MH → Prop} (hs : Spec Tryd.prog g args H K) (h : ∀ v H', K v H' → held Tryd.prog L H' F ∧ W Tryd.prog Q (.run l F :: k) (put ρ d v) H') : CallK Tryd.prog Q (.fn (.func g) [] []) args d L l F k ρ H :=
  CallK_of (a := []) (b := []) (by simpa using hs) h
theorem hgen_ok {H : MH} {p o c : Nat} {ob : MO} {xs : List Int} (hp : hget H p = some ob) (hcell : ∀ i, i < xs.length → ob.cells[o + i]? = some (u64 (xs.getD i 0))) (hc : xs.length ≤ c) (hlen : 0 < xs.length ∧ xs.length ≤ 1000000) (hfin : finL xs = true) (hI : InD xs) :
    Spec Tryd.prog 11 [.slice p o xs.length c 1] H fun u H' => ∃ t : GT, (t.V.length = xs.length ∧ InD t.V ∧ xs.length ≤ t.c) ∧ u = .tup [.agg [.slice H.length 0 xs.length t.c 1, u64 t.tau], u64 t.b, u8 t.f, i64 0] ∧ H' = H ++ [some ⟨t.V.map u64, true⟩] := by
  have hpl := lt_of_hget hp
  obtain ⟨N, hN⟩ : ∃ N, N = xs.length := ⟨_, rfl⟩
  have hv : Sl H (.slice p o xs.length c 1) xs := .inr ⟨p, o, c, _, rfl, hp, hcell⟩
  have hv1 : Sl H (.slice p (if c = 1 then o else o + 1) (xs.length - 1) (c - 1) 1) xs.tail := .inr ⟨p, (if c = 1 then o else o + 1), c - 1, _, by rw [List.length_tail], hp, fun i hi => by
    rw [List.length_tail] at hi
    rw [if_neg (by omega), Nat.add_assoc, Nat.add_comm 1 i, hcell (i + 1) (by omega)]
    simp [List.getD_eq_getElem?_getD]⟩
  have hl1 : xs.tail.length ≤ 1000000 := by rw [List.length_tail]; omega
  have om : ∀ f : Operand → MV, Option.map f none = none := fun _ => _root_.id rfl
  have s1 : (1 ≤ (xs.length : Int)) = True := eq_true (by omega)
  have s3 : Int.toNat 1 = 1 := _root_.id rfl
  have s4 : ((0 : Int) ≤ 1) = True := eq_true (by decide)
  have hne : ((xs.length : Int) = 0) = False := eq_false (by omega)
  have hfx : ∀ k : Nat, k < xs.length → finiteM (xs.getD k 0) = true := fun k hk => by
    unfold finL at hfin
    rw [List.all_eq_true] at hfin
    rw [List.getD_eq_getElem?_getD, List.getElem?_eq_getElem hk]
    exact hfin _ (List.getElem_mem hk)
  refine Spec.oneX (G := fun t : GT => t.V.length = xs.length ∧ InD t.V ∧ xs.length ≤ t.c) (v := fun t p => .tup [.agg [.slice p 0 xs.length t.c 1, u64 t.tau], u64 t.b, u8 t.f, i64 0]) (cs := fun t => t.V.map u64) (fun t => closed_u64 _) (fun t p => by simp [Cl, Cls']) (fun t π p _ => by simp [ren, rens]) ?_
  refine enterS Tryd.func11 [.cell 2 26, .tmp 3, .tmp 4, .tmp 5] ?_
  repeat' first | (with_reducible (show W _ _ _ _ _); with_reducible refine go2 ?_) | (with_reducible (show W _ _ _ _ _); with_reducible refine sg2 ?_ ?_ <;> intro _) | (with_reducible (show W _ _ _ _ _); with_reducible refine sc2 ?_ ?_ <;> intro _) | (with_reducible (show W _ _ (.code (.region 12 _ true) :: _) _ _); with_reducible refine W_draw [(0, []), (1, []), (3, []), (4, []), (5, []), (2, [5]), (6, [5]), (7, []), (8, []), (9, [])] [5] (by kernel_rfl) ?_) | (with_reducible (show W _ _ (.code (.region 23 _ true) :: _) _ _); with_reducible refine W_draw [(0, []), (1, []), (2, []), (3, []), (4, [1]), (5, []), (6, []), (7, []), (8, [])] [1] (by kernel_rfl) ?_)
  refine W_for (fun j ρ H' => ∃ k : Nat, k + j = xs.length ∧ ρ 0 = .slice p o xs.length c 1 ∧ ρ 2 = .ptr H.length 0 ∧ ρ 25 = .slice p o xs.length c 1 ∧ ρ 26 = i64 (xs.length : Int) ∧ ρ 27 = i64 k ∧ H' = H ++ [some ⟨[.lit (.slice none 0 0), u64 0], true⟩]) xs.length ?_ ?_
  · refine ⟨0, by omega, ?_⟩
    simp [put, args0]
  rintro j ρ H' ⟨k, hk, h0, h2, h25, h26, h27, rfl⟩
  have hia2 : ∀ k : Nat, (k : Int) < xs.length → iaV (.slice 1 8 (some [.int .u64 0]) true) (.slice p o xs.length c 1) (.lit (.int .i64 k)) = some (ixq (.slice p o xs.length c 1) k) := fun k h => hv.ia (by omega) _ _ _ _
  have hld2 : ∀ (k : Nat) (L : MH), (k : Int) < xs.length → loadV Tryd.prog 24 (ixq (.slice p o xs.length c 1) k) (H ++ L) = some (u64 (xs.getD k 0)) := fun k L h => (hv.app L).ld (by rw [ty_24]) (by rw [ty_24]) (by omega)
  have hld0 : ∀ L : MH, loadV Tryd.prog 24 (.ptr p o) (H ++ L) = some (u64 (xs.getD 0 0)) := fun L => by have := hld2 0 L (by omega); simpa [ixq] using this
  have hn0 : (0 < (xs.length : Int)) = True := eq_true (by omega)
  have f9 : (k : Int) < xs.length → finiteM (xs.getD k 0) = true := fun h => hfx k (by omega)
  by_cases hlt : (k : Int) < xs.length
  · repeat' first | (with_reducible (show W _ _ _ _ _); with_reducible refine go2 ?_) | (with_reducible (show W _ _ _ _ _); with_reducible refine sg2 ?_ ?_ <;> intro _) | (with_reducible (show W _ _ _ _ _); with_reducible refine sc2 ?_ ?_ <;> intro _) | (with_reducible (show CallK _ _ _ _ _ _ _ _ _ _ _); with_reducible refine ce2 (finite_spec _ _) ?_) | (with_reducible (show W _ _ (.code (.region 12 _ true) :: _) _ _); with_reducible refine W_draw [(0, []), (1, []), (3, []), (4, []), (5, []), (2, [5]), (6, [5]), (7, []), (8, []), (9, [])] [5] (by kernel_rfl) ?_) | (with_reducible (show W _ _ (.code (.region 23 _ true) :: _) _ _); with_reducible refine W_draw [(0, []), (1, []), (2, []), (3, []), (4, [1]), (5, []), (6, []), (7, []), (8, [])] [1] (by kernel_rfl) ?_)
    · exact ⟨j - 1, by omega, k + 1, by omega, by rw [wrap_suc (n := (xs.length : Int)) (by assumption) (by omega)]⟩
  clear f9
  repeat' first | (with_reducible (show W _ _ _ _ _); with_reducible refine go2 ?_) | (with_reducible (show W _ _ _ _ _); with_reducible refine sg2 ?_ ?_ <;> intro _) | (with_reducible (show W _ _ _ _ _); with_reducible refine sc2 ?_ ?_ <;> intro _) | (with_reducible (show CallK _ _ _ _ _ _ _ _ _ _ _); with_reducible refine ce2 (power_spec (hv1.app _) hl1) ?_) | (with_reducible (show CallK _ _ _ _ _ _ _ _ _ _ _); with_reducible refine ce2 (power_spec (hv.app _) hlen.2) ?_) | (with_reducible (show W _ _ (.code (.region 12 _ true) :: _) _ _); with_reducible refine W_draw [(0, []), (1, []), (3, []), (4, []), (5, []), (2, [5]), (6, [5]), (7, []), (8, []), (9, [])] [5] (by kernel_rfl) ?_) | (with_reducible (show W _ _ (.code (.region 23 _ true) :: _) _ _); with_reducible refine W_draw [(0, []), (1, []), (2, []), (3, []), (4, [1]), (5, []), (6, []), (7, []), (8, [])] [1] (by kernel_rfl) ?_) | ((with_reducible (show CallK _ _ _ _ _ _ _ _ _ _ _); with_reducible refine cm2 (none_spec (n := (xs.length : Int)) (N := xs.length) (by omega) (by omega) _) ?_))
  all_goals first
    | exact ⟨⟨genZ xs.length, 0, xs.length, xs.getD 0 0, 0⟩, H.length + 1, ⟨genZ_len _, genZ_in _, Nat.le_refl _⟩, rfl, by omega, hget_newL rfl, (Old.refl H).app _⟩
    | skip
  rename_i hb1 hb2 hb3
  have hn2 : 2 ≤ xs.length := by
    rcases Nat.lt_or_ge xs.length 2 with h | h
    · have : xs.tail = [] := List.eq_nil_of_length_eq_zero (by rw [List.length_tail]; omega)
      rw [this] at hb2
      exact absurd hb2 (by decide)
    · exact h
  (with_reducible (show CallK _ _ _ _ _ _ _ _ _ _ _)); with_reducible refine cx2 (vunit_spec (Sl.app hv _) hI _ hlen) ?_
  rintro u' H' ⟨cu, hcu, rfl, rfl⟩
  have hUl := unitL_len xs (powerM xs).1
  have hUI := unitL_in hI (powerM xs).1
  generalize hUe : unitL xs (powerM xs).1 = U at hUl hUI
  have hlenU : 0 < U.length ∧ U.length ≤ 1000000 := by omega
  have hUcell : ∀ i : Nat, i < U.length → (U.map u64)[i]? = some (u64 (U.getD i 0)) := fun i h => by simp [List.getD_eq_getElem?_getD, h]
  have hvU : ∀ (a : Option MO) (L : MH), Sl (H ++ a :: some ⟨U.map u64, true⟩ :: L) (.slice (H.length + 1) 0 xs.length cu 1) U := fun a L => .inr ⟨H.length + 1, 0, cu, _, by rw [hUl], hget_newL rfl, fun i hi => by rw [Nat.zero_add]; exact hUcell i hi⟩
  have hU0 := getD_in hUI 0
  have hnr := nrm2M_in U
  have e0 : (U.map u64)[0]? = some (u64 (U.getD 0 0)) := hUcell 0 (by omega)
  have hcell : ∀ (a b : Option MO) (g : Int) (L : MH), hget (H ++ a :: b :: some ⟨[u8 g], true⟩ :: L) (H.length + 2) = some ⟨[u8 g], true⟩ := fun a b g L => hget_new (i := 2)
  have s2 : (cu = 1) = False := eq_false (by omega)
  have hbs : ∀ x : Int, bsV (.slice 1 8 (some [.int .u64 0]) true) 1 [(0, u64 x)] = some ([u64 x], 1) := fun x => _root_.id rfl
  have hsub : ∀ a b : Int, InU a → InU (addM a (flipM b)).1 := fun a b h => addM_in h (flip_in b)
  repeat' first | (with_reducible (show W _ _ _ _ _); with_reducible refine go2 ?_) | (with_reducible (show W _ _ _ _ _); with_reducible refine sg2 ?_ ?_ <;> intro _) | (with_reducible (show W _ _ _ _ _); with_reducible refine sc2 ?_ ?_ <;> intro _) | (with_reducible (show CallK _ _ _ _ _ _ _ _ _ _ _); with_reducible refine ce2 (nrm2_spec (hvU _ _) hUI hlenU) ?_) | (with_reducible (show CallK _ _ _ _ _ _ _ _ _ _ _); with_reducible refine ce2 (neg_spec _ _) ?_) | (with_reducible (show CallK _ _ _ _ _ _ _ _ _ _ _); with_reducible refine ce2 (flip_spec _ _) ?_) | (with_reducible (show W _ _ (.code (.region 12 _ true) :: _) _ _); with_reducible refine W_draw [(0, []), (1, []), (3, []), (4, []), (5, []), (2, [5]), (6, [5]), (7, []), (8, []), (9, [])] [5] (by kernel_rfl) ?_) | (with_reducible (show W _ _ (.code (.region 23 _ true) :: _) _ _); with_reducible refine W_draw [(0, []), (1, []), (2, []), (3, []), (4, [1]), (5, []), (6, []), (7, []), (8, [])] [1] (by kernel_rfl) ?_) | ((with_reducible (show CallK _ _ _ _ _ _ _ _ _ _ _); first | (with_reducible refine cM (csub_spec (by first | exact hnr | exact flip_in _ | exact hU0) _ _ (hcell _ _ _ _)) ?_) | (with_reducible refine cx2 (cdiv_ex (hsub _ _ (by first | exact hnr | exact flip_in _)) (by first | exact hnr | exact flip_in _) _ (hcell _ _ _ _)) ?_; rintro u' H' ⟨⟨tau, g1⟩, htau, rfl, rfl⟩)))
  all_goals refine W_for (fun j ρ C => ∃ (k : Nat) (beta d : Int) (L : List Int) (w : MV), InU beta ∧ InU d ∧ k + j = xs.length - 1 ∧ L.length = k + 1 ∧ InD L ∧ ρ 2 = .ptr H.length 0 ∧ ρ 8 = i64 (powerM xs).1 ∧ ρ 13 = u64 beta ∧ ρ 14 = .ptr (H.length + 2) 0 ∧ ρ 15 = .ptr (H.length + 4) 0 ∧ ρ 16 = u64 d ∧
      ρ 92 = .slice (H.length + 1) 1 (xs.length - 1) (cu - 1) 1 ∧ ρ 93 = i64 ((xs.length - 1 : Nat) : Int) ∧ ρ 94 = i64 (k : Int) ∧ Gd H U L tau C w w) (xs.length - 1) ?_ ?_
  refine ⟨0, _, _, [4607182418800017408], .slice (H.length + 3) 0 1 1 1, ?_, ?_, by omega, rfl, ?_, h2, rfl, rfl, rfl, rfl, rfl, rfl, rfl, rfl, ?_⟩
  · first
      | exact hnr
      | exact flip_in _
  · exact hsub _ _ hU0
  · intro x hx
    simp only [List.mem_singleton] at hx
    subst hx
    constructor <;> decide
  · exact ⟨(Old.refl H).app _, hget_new', hget_newL rfl, ⟨_, hget_newL rfl⟩, hget_newL rfl, H.length + 3, 1, rfl, Nat.le_refl _, hget_newL rfl, by omega, by omega⟩
  rotate_left
  refine ⟨0, _, _, [4607182418800017408], .slice (H.length + 3) 0 1 1 1, ?_, ?_, by omega, rfl, ?_, h2, rfl, rfl, rfl, rfl, rfl, rfl, rfl, rfl, ?_⟩
  · first
      | exact hnr
      | exact flip_in _
  · exact hsub _ _ hU0
  · intro x hx
    simp only [List.mem_singleton] at hx
    subst hx
    constructor <;> decide
  · exact ⟨(Old.refl H).app _, hget_new', hget_newL rfl, ⟨_, hget_newL rfl⟩, hget_newL rfl, H.length + 3, 1, rfl, Nat.le_refl _, hget_newL rfl, by omega, by omega⟩
  all_goals clear hnr hcell
  all_goals rintro j ρ C ⟨k, beta, d, L, w, hbeta, hd, hk, hL, hLI, h2, h8, h13, h14, h15, h16, h92, h93, h94, hC⟩
  all_goals have cr := hC.cr
  all_goals have c0 := hC.c0
  all_goals have cU := hC.cU
  all_goals obtain ⟨g0, cg⟩ := hC.cg
  all_goals have f3 : ∀ m : Nat, (0 ≤ (m : Int)) = True := fun m => eq_true (by omega)
  all_goals have f5 : ∀ m : Nat, (m : Int).toNat = m := fun m => Int.toNat_natCast m
  all_goals have f6 : ∀ m : Nat, m * 1 = m := Nat.mul_one
  all_goals have f7 : (k : Int) < ((xs.length - 1 : Nat) : Int) → (U.map u64)[1 + k]? = some (u64 (U.getD (1 + k) 0)) := fun h => hUcell _ (by omega)
  all_goals have hin := getD_in hUI (1 + k)
  all_goals have e1 : (k : Int) < ((xs.length - 1 : Nat) : Int) → IntKind.i64.wrap ((k : Int) + 1) = ((k + 1 : Nat) : Int) := fun h => by rw [wrap_i64 (by omega)]; omega
  all_goals have hty : (ty Tryd.prog 22).k = .slice 1 8 (some [.int .u64 0]) true := by rw [ty_22]
  all_goals have hCl := lt_of_hget cr
  all_goals have how := hC.ones
  all_goals have t0 : ∀ x, hget (C.set H.length x) H.length = x := fun x => hget_set_same (by omega) _
  all_goals have hheld : ∀ g2 : Int, held Tryd.prog [1] (C.set (H.length + 2) (some ⟨[u8 g2], true⟩)) [(1, HF.load 22 (.ptr (H.length + 4) 0) w)] := fun g2 => (by have := (hget_set_ne (show H.length + 2 ≠ H.length + 4 by omega) (some ⟨[u8 g2], true⟩)).trans cr; simp [held_cons, sem_load, held_nil, loadV_ptr, ty_22, this])
  all_goals (repeat' first | (with_reducible (show W _ _ _ _ _); with_reducible refine go2 ?_) | (with_reducible (show W _ _ _ _ _); with_reducible refine sg2 ?_ ?_ <;> intro _) | (with_reducible (show W _ _ _ _ _); with_reducible refine sc2 ?_ ?_ <;> intro _) | (with_reducible (show CallK _ _ _ _ _ _ _ _ _ _ _); with_reducible refine ce2 (scale_spec hbeta _ _) ?_) | (with_reducible (show W _ _ (.code (.region 12 _ true) :: _) _ _); with_reducible refine W_draw [(0, []), (1, []), (3, []), (4, []), (5, []), (2, [5]), (6, [5]), (7, []), (8, []), (9, [])] [5] (by kernel_rfl) ?_) | (with_reducible (show W _ _ (.code (.region 23 _ true) :: _) _ _); with_reducible refine W_draw [(0, []), (1, []), (2, []), (3, []), (4, [1]), (5, []), (6, []), (7, []), (8, [])] [1] (by kernel_rfl) ?_) | (first | (with_reducible (show CallK _ _ _ _ _ _ _ _ _ _ _); with_reducible refine cxh (cdiv_ex hin hd _ cg) ?_; rintro u' H' ⟨⟨q, g2⟩, hq, rfl, rfl⟩; refine ⟨hheld g2, ?_⟩) | (with_reducible (show AppK _ _ _ _ _ _ _ _ _ _); with_reducible refine app_gd (hC.met _) (by omega) hty (by simp) ?_; rintro v' C' hC'; have cr' := hC'.cr; have hcm := hC'.cells; have hon := hC'.ones)))
  all_goals first
    | (refine ⟨j - 1, by omega, k + 1, beta, d, L ++ [q], v', hbeta, hd, by omega, by simp; omega, ?_, rfl, rfl, rfl, hC'.put⟩
       intro x hx
       rcases List.mem_append.1 hx with h | h
       · exact hLI x h
       · simp only [List.mem_singleton] at h
         subst h; exact hq)
    | (obtain ⟨px, cc, hw, hcl, hpx, l1, l2⟩ := hC.cv
       have hLx : L.length = xs.length := by omega
       refine ⟨⟨L, tau, cc, (scaleM beta (powerM xs).1).1, (scaleM beta (powerM xs).1).2⟩, px, ⟨hLx, hLI, (by show xs.length ≤ cc; omega)⟩, ?_, by omega, (hget_set_ne (by omega) _).trans hpx, hC.old.setq _ (Nat.le_refl _)⟩
       rw [hw, hLx]; done)
end Go.Proofs.YtcikcinkjbbnhaaDoor.M
