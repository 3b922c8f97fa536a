/- Two numbers of the diagonal change places: what numbers come. -/
import Derived.Test.YtdbngjlhcjjhbaaGreatDoorC70
import Derived.Test.YtdbngjlhcjjhbaaGreatDoorY8
set_option linter.unusedSimpArgs false
set_option linter.unusedVariables false
set_option maxRecDepth 10000
set_option maxHeartbeats 1000000
namespace Go.Proofs.YtdbngjlhcjjhbaaGreatDoor.M
open Go Go.Proofs

theorem mg_one : mg 4607182418800017408 = 1 := by
  have h : partsM 4607182418800017408 = (4503599627370496, -52) := by decide +kernel
  unfold mg
  rw [h]
  have h2 := pw52 (-52)
  have h3 : pw (-52 + 52) = 1 := pw_zero
  rw [h3] at h2
  exact h2.symm
theorem Fn.one : Fn 4607182418800017408 := ⟨⟨by decide, by decide⟩, by decide⟩
theorem pw1 : pw 1 = 2 := pw_one
theorem div_le_of {x y : Rat} (hx : 0 ≤ x) (hy : 1 ≤ y) : x / y ≤ x := by
  have hy0 : y ≠ 0 := by grind
  have h1 : x / y * y = x := Rat.div_mul_cancel hy0
  have h2 : 0 ≤ x / y := div_nn hx (by grind)
  have h3 := mull hy h2
  grind
theorem add_le2 {a b c d : Rat} (h : a ≤ b) (h' : c ≤ d) : a + c ≤ b + d := by grind
theorem ab_div {x y : Int} (hx : Fn x) (hy : Fn y) (hz : mg y ≠ 0) : ab (val x / val y) = mg x / mg y := by
  have hv : val y ≠ 0 := fun e => hz ((mg_zero hy.inu hy.fin).2 ((val_zero hy.inu hy.fin).1 e))
  have e1 : ab (val x / val y) * mg y = mg x := by rw [← hy.ab, ← ab_mul, Rat.div_mul_cancel hv, hx.ab]
  have e2 : mg x / mg y * mg y = mg x := Rat.div_mul_cancel hz
  have e3 : (ab (val x / val y) - mg x / mg y) * mg y = 0 := by grind
  rcases Rat.mul_eq_zero.1 e3 with h | h
  · grind
  · exact absurd h hz
theorem at_set_eqW {r c : Int} {D : List Int} (h : MatOk r c D) {i k : Nat} (hi : (i : Int) < r) (hk : (k : Int) < c) (b : Int) : atM r c c (setM r c c D i k b) i k = b := by
  rw [atM_in' (h.set _ _ _) hi hk, setM_in' h hi hk]
  have hl := place_lt h.r0 h.c0 hi hk
  rw [← h.len] at hl
  rw [List.getD_eq_getElem?_getD, List.getElem?_set_self hl]
  rfl
/-- Nothing in a turn is greater than two. -/
theorem giv_val {a b : Int} (ha : Fn a) (hb : Fn b) : (Fn (givM a b).1 ∧ mg (givM a b).1 ≤ pw 1) ∧ Fn (givM a b).2 ∧ mg (givM a b).2 ≤ pw 1 := by
  unfold givM
  split
  · exact ⟨⟨Fn.one, by rw [mg_one, pw_one]; decide⟩, Fn.zero, by rw [mg_z]; exact pw_nn _⟩
  · rename_i hk
    have hx : ∀ x ∈ [a, b], Fn x := fun x hx => by
      simp only [List.mem_cons, List.not_mem_nil, or_false] at hx
      rcases hx with rfl | rfl
      · exact ha
      · exact hb
    have hp : (powerM [a, b]).2 = true := by
      rcases power_val hx with h | h
      · exfalso
        have := h.2.2 b (by simp)
        exact hk ((mg_zero hb.inu hb.fin).1 this)
      · exact h.1
    obtain ⟨M, hU⟩ := unit_val hx hp
    have hl := hU.len
    have hul : (unitL [a, b] (powerM [a, b]).1).length = 2 := hl
    have hn := nrm_val (us := unitL [a, b] (powerM [a, b]).1) (M := M) (fun i hi => ⟨(hU.fl i (by rw [← hl]; exact hi)).fn, hU.le i (by rw [← hl]; exact hi)⟩)
      (by obtain ⟨i, h1, h2⟩ := hU.top; exact ⟨i, by rw [hl]; exact h1, h2⟩) hU.lo hU.hi (by rw [hul]; decide)
    obtain ⟨n1, n2, n3, n4⟩ : Fn (givR a b) ∧ val (givR a b) = mg (givR a b) ∧ 1 ≤ mg (givR a b) ∧ _ := hn
    have hz : mg (givR a b) ≠ 0 := fun e => by
      have : 1 ≤ mg (givR a b) := n3
      rw [e] at this
      exact absurd this (by decide)
    have key : ∀ i, i < 2 → Fn (divM ((unitL [a, b] (powerM [a, b]).1).getD i 0) (givR a b)).1 ∧ mg (divM ((unitL [a, b] (powerM [a, b]).1).getD i 0) (givR a b)).1 ≤ pw 1 := fun i hi => by
      have f1 := (hU.fl i hi).fn
      have f2 := hU.le i hi
      have f3 : mg ((unitL [a, b] (powerM [a, b]).1).getD i 0) / mg (givR a b) ≤ pw 1 := by
        rw [pw_one]
        exact Rat.le_trans (div_le_of f1.mg0 n3) (Rat.le_trans f2 (Rat.le_of_lt hU.hi))
      have f4 := fl_div f1 n1 hz (Rat.le_trans f3 (pw_le (by decide)))
      refine ⟨f4.fn, f4.up _ (rep_pw (by decide)) ?_⟩
      rw [ab_div f1 n1 hz]; exact f3
    exact ⟨key 0 (by decide), key 1 (by decide)⟩
theorem Fl.zero {r : Int} (h : Fl 0 r) : mg r = 0 := by
  have := h.exact (by rw [ab_zero]; exact rep_zero)
  rw [this, ab_zero]
theorem val0 {x : Int} (h : Fn x) (e : mg x = 0) : val x = 0 := by
  rcases val_ab h with h | h <;> rw [h, e] <;> decide
theorem flip_val' {b : Int} (h : Fn b) : val (flipM b) = - val b := flip_val h.inu h.fin
/-- Two numbers turned. -/
theorem of_val {c s x y k : Int} (hc : Fn c ∧ mg c ≤ pw 1) (hs : Fn s ∧ mg s ≤ pw 1) (hx : Fn x ∧ mg x ≤ pw k) (hy : Fn y ∧ mg y ≤ pw k) (hk : -1000 ≤ k ∧ k ≤ 1000) :
    ((Fn (ofM c s x y).1 ∧ mg (ofM c s x y).1 ≤ pw (k + 2)) ∧ Fn (ofM c s x y).2 ∧ mg (ofM c s x y).2 ≤ pw (k + 2)) ∧ (mg x = 0 → mg y = 0 → mg (ofM c s x y).1 = 0 ∧ mg (ofM c s x y).2 = 0) := by
  have hm : ∀ {c x : Int}, Fn c ∧ mg c ≤ pw 1 → Fn x ∧ mg x ≤ pw k → (Fn (mulM c x).1 ∧ mg (mulM c x).1 ≤ pw (k + 1)) ∧ (mg x = 0 → mg (mulM c x).1 = 0) := fun {c x} hc hx => by
    have h1 : mg c * mg x ≤ pw (k + 1) := by
      rw [Int.add_comm, pw_add]
      exact mul2 hc.2 hx.2 hc.1.mg0 (pw_nn _)
    have h2 := fl_mul hc.1 hx.1 (Rat.le_trans h1 (pw_le (by omega)))
    refine ⟨⟨h2.fn, h2.up _ (rep_pw (by omega)) (by rw [ab_mul, hc.1.ab, hx.1.ab]; exact h1)⟩, fun e => ?_⟩
    have := val0 hx.1 e
    rw [this, Rat.mul_zero] at h2
    exact h2.zero
  have ha : ∀ {u v : Int}, Fn u ∧ mg u ≤ pw (k + 1) → Fn v ∧ mg v ≤ pw (k + 1) → (Fn (addM u v).1 ∧ mg (addM u v).1 ≤ pw (k + 2)) ∧ (mg u = 0 → mg v = 0 → mg (addM u v).1 = 0) := fun {u v} hu hv => by
    have h1 : ab (val u + val v) ≤ pw (k + 2) := by
      have e : pw (k + 2) = pw (k + 1) + pw (k + 1) := by rw [show k + 2 = k + 1 + 1 by omega, pw_succ]; grind
      refine Rat.le_trans (ab_add _ _) ?_
      rw [hu.1.ab, hv.1.ab, e]
      exact add_le2 hu.2 hv.2
    have h2 := fl_add hu.1 hv.1 (Rat.le_trans h1 (pw_le (by omega)))
    refine ⟨⟨h2.fn, h2.up _ (rep_pw (by omega)) h1⟩, fun e e' => ?_⟩
    rw [val0 hu.1 e, val0 hv.1 e', Rat.add_zero] at h2
    exact h2.zero
  have hf : ∀ {u : Int}, Fn u ∧ mg u ≤ pw (k + 1) → Fn (flipM u) ∧ mg (flipM u) ≤ pw (k + 1) := fun {u} hu => ⟨hu.1.flip, by rw [flip_mg hu.1.inu hu.1.fin]; exact hu.2⟩
  have m1 := hm hc hx
  have m2 := hm hs hy
  have m3 := hm hc hy
  have m4 := hm hs hx
  have s1 := ha m1.1 m2.1
  have s2 := ha m3.1 (hf m4.1)
  refine ⟨⟨s1.1, s2.1⟩, fun e e' => ⟨s1.2 (m1.2 e) (m2.2 e'), s2.2 (m3.2 e') ?_⟩⟩
  rw [flip_mg m4.1.1.inu m4.1.1.fin]
  exact m4.2 e

/-- All numbers, and none greater. -/
def AllB (D : List Int) (B : Rat) : Prop := ∀ x ∈ D, Fn x ∧ mg x ≤ B
theorem AllB.mono {D : List Int} {B B' : Rat} (h : AllB D B) (hB : B ≤ B') : AllB D B' := fun x hx => ⟨(h x hx).1, Rat.le_trans (h x hx).2 hB⟩
theorem AllB.inD {D : List Int} {B : Rat} (h : AllB D B) : InD D := fun x hx => (h x hx).1.inu
theorem AllB.fin {D : List Int} {B : Rat} (h : AllB D B) : finD D = true := List.all_eq_true.2 fun x hx => (h x hx).1.fin
theorem AllB.set {D : List Int} {B : Rat} (h : AllB D B) (i : Nat) {b : Int} (hb : Fn b ∧ mg b ≤ B) : AllB (D.set i b) B := fun x hx => by
  rcases List.mem_or_eq_of_mem_set hx with hx | rfl
  · exact h x hx
  · exact hb
theorem AllB.setm {D : List Int} {B : Rat} (h : AllB D B) (r c s i k : Int) {b : Int} (hb : Fn b ∧ mg b ≤ B) : AllB (setM r c s D i k b) B := by
  unfold M.setM
  split
  · exact h.set _ hb
  · exact h
theorem AllB.at {r c : Int} {D : List Int} {B : Rat} (h : AllB D B) (hD : MatOk r c D) {i k : Nat} (hi : (i : Int) < r) (hk : (k : Int) < c) : Fn (atM r c c D i k) ∧ mg (atM r c c D i k) ≤ B := by
  rw [atM_in' hD hi hk]
  have hl := place_lt hD.r0 hD.c0 hi hk
  rw [← hD.len] at hl
  exact h _ (getD_mem' hl)
theorem iter_ind {α : Type} {f : Nat → α → α} (P : Nat → α → Prop) {m : Nat} {a : α} (h0 : P 0 a) (hs : ∀ k a, k < m → P k a → P (k + 1) (f k a)) : ∀ j, j ≤ m → P j (iter f j a)
  | 0, _ => h0
  | j + 1, hj => hs j _ (by omega) (iter_ind P h0 hs j (by omega))
theorem at_pair {n c s : Int} {D : List Int} (h : MatOk n n D) {i k i' k' : Nat} (hi : (i : Int) < n) (hk : (k : Int) < n) (hi' : (i' : Int) < n) (hk' : (k' : Int) < n) (hne : i ≠ i' ∨ k ≠ k') {x y : Nat} (hx : (x : Int) < n) (hy : (y : Int) < n) :
    atM n n n (pairM n c s i k i' k' D) x y = (if i' = x ∧ k' = y then (ofM c s (atM n n n D i k) (atM n n n D i' k')).2 else if i = x ∧ k = y then (ofM c s (atM n n n D i k) (atM n n n D i' k')).1 else atM n n n D x y) := by
  unfold pairM
  have h1 := h.set i k (ofM c s (atM n n n D i k) (atM n n n D i' k')).1
  split
  · rename_i e
    obtain ⟨rfl, rfl⟩ := e
    exact at_set_eqW h1 hi' hk' _
  · rename_i e
    rw [at_set_ne h1 hi' hk' hx hy (by omega)]
    split
    · rename_i e
      obtain ⟨rfl, rfl⟩ := e
      exact at_set_eqW h hi hk _
    · rename_i e
      exact at_set_ne h hi hk hx hy (by omega) _
/-- What a turn of two rows and two columns leaves: bounds, zeros, the other numbers of the diagonal. -/
structure Tn (n : Int) (a : Nat) (D0 D : List Int) (B : Rat) : Prop where
  ok : MatOk n n D
  all : AllB D B
  low : ∀ i k : Nat, (i : Int) < n → k < i → ¬ (i = a + 1 ∧ k = a) → mg (atM n n n D i k) = 0
  diag : ∀ i : Nat, (i : Int) < n → i ≠ a → i ≠ a + 1 → atM n n n D i i = atM n n n D0 i i
theorem Tn.pair {n c s k0 : Int} {a : Nat} {D0 D : List Int} (h : Tn n a D0 D (pw k0)) (hc : Fn c ∧ mg c ≤ pw 1) (hs : Fn s ∧ mg s ≤ pw 1) (hk0 : -1000 ≤ k0 ∧ k0 ≤ 1000) {i k i' k' : Nat} (hi : (i : Int) < n) (hk : (k : Int) < n) (hi' : (i' : Int) < n) (hk' : (k' : Int) < n)
    (hne : i = a ∧ i' = a + 1 ∧ k' = k ∨ k = a ∧ k' = a + 1 ∧ i' = i) : Tn n a D0 (pairM n c s i k i' k' D) (pw (k0 + 2)) := by
  have hv := of_val hc hs (h.all.at h.ok hi hk) (h.all.at h.ok hi' hk') hk0
  have hmono := h.all.mono (pw_le (show k0 ≤ k0 + 2 by omega))
  refine ⟨pair_ok h.ok _ _ _ _ _ _, (hmono.setm _ _ _ _ _ hv.1.1).setm _ _ _ _ _ hv.1.2, fun x y hx hyx hxy => ?_, fun x hx h1 h2 => ?_⟩
  · rw [at_pair h.ok hi hk hi' hk' (by omega) hx (by omega)]
    split
    · rename_i e
      obtain ⟨rfl, rfl⟩ := e
      exact (hv.2 (h.low i k hi (by omega) (by omega)) (h.low i' k' hi' hyx hxy)).2
    · split
      · rename_i e
        obtain ⟨rfl, rfl⟩ := e
        by_cases e : i = a + 1 ∧ k = a
        · exact absurd e hxy
        · by_cases e' : k' < i'
          · by_cases e'' : i' = a + 1 ∧ k' = a
            · omega
            · exact (hv.2 (h.low i k hi hyx hxy) (h.low i' k' hi' e' e'')).1
          · omega
      · exact h.low x y hx hyx hxy
  · rw [at_pair h.ok hi hk hi' hk' (by omega) hx hx]
    split
    · omega
    · split
      · omega
      · exact h.diag x hx h1 h2
theorem Tn.rows {n c s k0 : Int} {a : Nat} {D0 D : List Int} (h : Tn n a D0 D (pw k0)) (hc : Fn c ∧ mg c ≤ pw 1) (hs : Fn s ∧ mg s ≤ pw 1) (ha : ((a + 1 : Nat) : Int) < n) (hk0 : 0 ≤ k0 ∧ k0 + 2 * n.toNat ≤ 1000) : Tn n a D0 (rowsM n c s a n.toNat D) (pw (k0 + 2 * n.toNat)) := by
  refine iter_ind (fun (j : Nat) D => Tn n a D0 D (pw (k0 + 2 * (j : Int)))) (m := n.toNat) (by simpa using h) (fun k D hk hD => ?_) n.toNat (Nat.le_refl _)
  have := hD.pair hc hs (by omega) (i := a) (k := k) (i' := a + 1) (k' := k) (by omega) (by omega) (by omega) (by omega) (.inl ⟨rfl, rfl, rfl⟩)
  have e : k0 + 2 * (k : Int) + 2 = k0 + 2 * ((k + 1 : Nat) : Int) := by omega
  rw [e] at this
  exact this
theorem Tn.cols {n c s k0 : Int} {a : Nat} {D0 D : List Int} (h : Tn n a D0 D (pw k0)) (hc : Fn c ∧ mg c ≤ pw 1) (hs : Fn s ∧ mg s ≤ pw 1) (ha : ((a + 1 : Nat) : Int) < n) (hk0 : 0 ≤ k0 ∧ k0 + 2 * n.toNat ≤ 1000) : Tn n a D0 (colsM n c s a n.toNat D) (pw (k0 + 2 * n.toNat)) := by
  refine iter_ind (fun (j : Nat) D => Tn n a D0 D (pw (k0 + 2 * (j : Int)))) (m := n.toNat) (by simpa using h) (fun k D hk hD => ?_) n.toNat (Nat.le_refl _)
  have := hD.pair hc hs (by omega) (i := k) (k := a) (i' := k) (k' := a + 1) (by omega) (by omega) (by omega) (by omega) (.inr ⟨rfl, rfl, rfl⟩)
  have e : k0 + 2 * (k : Int) + 2 = k0 + 2 * ((k + 1 : Nat) : Int) := by omega
  rw [e] at this
  exact this
/-- Bounds alone. -/
theorem cols_all {n c s k0 : Int} {a : Nat} {E : List Int} (hE : MatOk n n E) (h : AllB E (pw k0)) (hc : Fn c ∧ mg c ≤ pw 1) (hs : Fn s ∧ mg s ≤ pw 1) (ha : ((a + 1 : Nat) : Int) < n) (hk0 : 0 ≤ k0 ∧ k0 + 2 * n.toNat ≤ 1000) : AllB (colsM n c s a n.toNat E) (pw (k0 + 2 * n.toNat)) := by
  refine (iter_ind (fun (j : Nat) D => MatOk n n D ∧ AllB D (pw (k0 + 2 * (j : Int)))) (m := n.toNat) (by simpa using ⟨hE, h⟩) (fun k D hk hD => ?_) n.toNat (Nat.le_refl _)).2
  have hv := of_val hc hs (hD.2.at hD.1 (i := k) (k := a) (by omega) (by omega)) (hD.2.at hD.1 (i := k) (k := a + 1) (by omega) (by omega)) (by omega)
  have e : k0 + 2 * (k : Int) + 2 = k0 + 2 * ((k + 1 : Nat) : Int) := by omega
  rw [e] at hv
  exact ⟨pair_ok hD.1 _ _ _ _ _ _, ((hD.2.mono (pw_le (by omega))).setm _ _ _ _ _ hv.1.1).setm _ _ _ _ _ hv.1.2⟩
/-- What is needed of a triangle. -/
structure Tg (n : Int) (D : List Int) (k0 : Int) : Prop where
  ok : MatOk n n D
  all : AllB D (pw k0)
  tri : Tri n D
theorem Tg.one {n : Int} {D : List Int} {k0 : Int} (h : Tg n D k0) (hk0 : 0 ≤ k0 ∧ k0 ≤ 900) {a : Nat} (ha : ((a + 1 : Nat) : Int) < n) : OneFin n D a ∧ Fn (addM (atM n n n D ((a + 1 : Nat) : Int) ((a + 1 : Nat) : Int)) (flipM (atM n n n D a a))).1 := by
  have h1 := h.all.at h.ok (i := a + 1) (k := a + 1) ha ha
  have h2 := h.all.at h.ok (i := a) (k := a) (by omega) (by omega)
  have h3 := h.all.at h.ok (i := a) (k := a + 1) (by omega) ha
  have h4 : ab (val (atM n n n D ((a + 1 : Nat) : Int) ((a + 1 : Nat) : Int)) - val (atM n n n D a a)) ≤ pw (k0 + 1) := by
    rw [pw_succ, show ∀ x y : Rat, x - y = x + -y from fun x y => by grind]
    refine Rat.le_trans (ab_add _ _) ?_
    rw [ab_neg, h1.1.ab, h2.1.ab]
    have : ∀ p q r : Rat, p ≤ r → q ≤ r → p + q ≤ 2 * r := fun p q r h h' => by grind
    exact this _ _ _ h1.2 h2.2
  have h5 := fl_sub h1.1 h2.1 (Rat.le_trans h4 (pw_le (by omega)))
  exact ⟨⟨h3.1.fin, h5.fn.fin⟩, h5.fn⟩
theorem Tg.giv {n : Int} {D : List Int} {k0 : Int} (h : Tg n D k0) (hk0 : 0 ≤ k0 ∧ k0 ≤ 900) {a : Nat} (ha : ((a + 1 : Nat) : Int) < n) : (Fn (oneG n D a).1 ∧ mg (oneG n D a).1 ≤ pw 1) ∧ Fn (oneG n D a).2 ∧ mg (oneG n D a).2 ≤ pw 1 :=
  giv_val (h.all.at h.ok (by omega) ha).1 (h.one hk0 ha).2
theorem tri_low {n : Int} {D : List Int} {k0 : Int} (h : Tg n D k0) {i k : Nat} (hi : (i : Int) < n) (hk : k < i) : mg (atM n n n D i k) = 0 := by
  have := h.all.at h.ok hi (k := k) (by omega)
  exact (mg_zero this.1.inu this.1.fin).2 (h.tri i k hi hk)
/-- What comes when two numbers of the diagonal change places. -/
theorem ones_val {n : Int} {D : List Int} {k0 : Int} (h : Tg n D k0) {a : Nat} (ha : ((a + 1 : Nat) : Int) < n) (hk0 : 0 ≤ k0 ∧ k0 + 4 * n.toNat ≤ 900) :
    Tg n (onesD n D a) (k0 + 4 * n.toNat) ∧ atM n n n (onesD n D a) a a = atM n n n D ((a + 1 : Nat) : Int) ((a + 1 : Nat) : Int) ∧ atM n n n (onesD n D a) ((a + 1 : Nat) : Int) ((a + 1 : Nat) : Int) = atM n n n D a a ∧
    atM n n n (onesD n D a) a ((a + 1 : Nat) : Int) = atM n n n D a ((a + 1 : Nat) : Int) ∧ ∀ i : Nat, (i : Int) < n → i ≠ a → i ≠ a + 1 → atM n n n (onesD n D a) i i = atM n n n D i i := by
  have hg := h.giv (by omega) ha
  have ha' : (a : Int) < n := by omega
  have t0 : Tn n a D D (pw k0) := ⟨h.ok, h.all, fun i k hi hk _ => tri_low h hi hk, fun _ _ _ _ => rfl⟩
  have t1 := t0.rows hg.1 hg.2 ha (by omega)
  have t2 := t1.cols hg.1 hg.2 ha (by omega)
  have e : k0 + 2 * (n.toNat : Int) + 2 * (n.toNat : Int) = k0 + 4 * (n.toNat : Int) := by omega
  rw [e] at t2
  have hT : colsM n (oneG n D a).1 (oneG n D a).2 a n.toNat (rowsM n (oneG n D a).1 (oneG n D a).2 a n.toNat D) = oneT n D a := rfl
  rw [hT] at t2
  have hm := h.all.mono (pw_le (show k0 ≤ k0 + 4 * (n.toNat : Int) by omega))
  have b1 := hm.at h.ok ha ha
  have b2 := hm.at h.ok ha' ha'
  have b3 := hm.at h.ok ha' ha
  have b4 : Fn 0 ∧ mg 0 ≤ pw (k0 + 4 * (n.toNat : Int)) := ⟨Fn.zero, by rw [mg_z]; exact pw_nn _⟩
  unfold onesD
  obtain ⟨x1, hx1⟩ : ∃ x, atM n n n D ((a + 1 : Nat) : Int) ((a + 1 : Nat) : Int) = x := ⟨_, rfl⟩
  obtain ⟨x2, hx2⟩ : ∃ x, atM n n n D a a = x := ⟨_, rfl⟩
  obtain ⟨x3, hx3⟩ : ∃ x, atM n n n D a ((a + 1 : Nat) : Int) = x := ⟨_, rfl⟩
  rw [hx1] at b1 ⊢
  rw [hx2] at b2 ⊢
  rw [hx3] at b3 ⊢
  obtain ⟨T, hTe⟩ : ∃ T, oneT n D a = T := ⟨_, rfl⟩
  rw [hTe] at t2 ⊢
  have k1 := t2.ok.set a a x1
  have k2 := k1.set ((a + 1 : Nat) : Int) ((a + 1 : Nat) : Int) x2
  have k3 := k2.set a ((a + 1 : Nat) : Int) x3
  refine ⟨⟨k3.set _ _ _, (((t2.all.setm _ _ _ _ _ b1).setm _ _ _ _ _ b2).setm _ _ _ _ _ b3).setm _ _ _ _ _ b4, fun i k hi hk => ?_⟩, ?_, ?_, ?_, fun i hi h1 h2 => ?_⟩
  · by_cases e1 : i = a + 1 ∧ k = a
    · obtain ⟨rfl, rfl⟩ := e1
      rw [at_set_eqW k3 ha ha']
      decide
    · have hk' : (k : Int) < n := by omega
      rw [at_set_ne k3 ha ha' hi hk' (by omega), at_set_ne k2 ha' ha hi hk' (by omega), at_set_ne k1 ha ha hi hk' (by omega), at_set_ne t2.ok ha' ha' hi hk' (by omega)]
      have := t2.all.at t2.ok hi hk'
      exact (mg_zero this.1.inu this.1.fin).1 (t2.low i k hi hk e1)
  · rw [at_set_ne k3 ha ha' ha' ha' (by omega), at_set_ne k2 ha' ha ha' ha' (by omega), at_set_ne k1 ha ha ha' ha' (by omega), at_set_eqW t2.ok ha' ha']
  · rw [at_set_ne k3 ha ha' ha ha (by omega), at_set_ne k2 ha' ha ha ha (by omega), at_set_eqW k1 ha ha]
  · rw [at_set_ne k3 ha ha' ha' ha (by omega), at_set_eqW k2 ha' ha]
  · rw [at_set_ne k3 ha ha' hi hi (by omega), at_set_ne k2 ha' ha hi hi (by omega), at_set_ne k1 ha ha hi hi (by omega), at_set_ne t2.ok ha' ha' hi hi (by omega)]
    exact t2.diag i hi h1 h2
theorem onesE_val {n : Int} {D E : List Int} {k0 k1 : Int} (h : Tg n D k0) (hk0 : 0 ≤ k0 ∧ k0 ≤ 900) (hE : MatOk n n E) (hEa : AllB E (pw k1)) {a : Nat} (ha : ((a + 1 : Nat) : Int) < n) (hk1 : 0 ≤ k1 ∧ k1 + 2 * n.toNat ≤ 900) :
    MatOk n n (onesE n D E a) ∧ AllB (onesE n D E a) (pw (k1 + 2 * n.toNat)) := by
  have hg := h.giv hk0 ha
  exact ⟨cols_ok hE _ _ _ _, cols_all hE hEa hg.1 hg.2 ha (by omega)⟩
theorem one_all {n : Int} (h : 0 ≤ n) : AllB (oneM n) (pw 0) := by
  refine iter_ind (fun _ D => AllB D (pw 0)) (m := n.toNat) (fun x hx => ?_) (fun k D _ hD => hD.setm _ _ _ _ _ ⟨Fn.one, by rw [mg_one, pw_zero]; exact Rat.le_refl⟩) n.toNat (Nat.le_refl _)
  rw [List.mem_replicate] at hx
  rw [hx.2]
  exact ⟨Fn.zero, by rw [mg_z]; exact pw_nn _⟩
end Go.Proofs.YtdbngjlhcjjhbaaGreatDoor.M
