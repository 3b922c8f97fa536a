/- The reflection of any list, and a matrix reflected: how great numbers may be. hess.Reduce of any numbers ends well. -/
import Derived.Test.YtblgabpgafbfiaaDoorC49
import Derived.Test.YtblgabpgafbfiaaDoorY11
set_option linter.unusedSimpArgs false
set_option linter.unusedVariables false
set_option maxRecDepth 10000
set_option maxHeartbeats 1000000
namespace Go.Proofs.YtblgabpgafbfiaaDoor.M
open Go Go.Proofs

/-- Opposite in sign, so that the difference is no less than either. -/
theorem opp_ge {a b : Rat} (h : 0 ≤ a ∧ b ≤ 0 ∨ a ≤ 0 ∧ 0 ≤ b) : ab b ≤ ab (a - b) := by
  unfold ab
  rcases h with ⟨h1, h2⟩ | ⟨h1, h2⟩ <;> split <;> split <;> grind
/-- The reflection of a list: nothing in it is great. -/
theorem gen_b {xs : List Int} (hx : ∀ x ∈ xs, Fn x) (hl : 1 ≤ xs.length ∧ xs.length ≤ 7) {k : Int} (hk : 0 ≤ k ∧ k ≤ 900) (hb : ∀ x ∈ xs, mg x ≤ pw k) :
    (∀ i, Fn ((genV xs).getD i 0) ∧ mg ((genV xs).getD i 0) ≤ pw 1) ∧ (Fn (genT xs) ∧ mg (genT xs) ≤ pw 5) ∧ Fn (genK xs).1 ∧ mg (genK xs).1 ≤ pw (k + 4) := by
  have z1 : Fn 0 ∧ mg 0 ≤ pw 1 := ⟨Fn.zero, by rw [mg_z]; exact pw_nn _⟩
  have o1 : Fn 4607182418800017408 ∧ mg 4607182418800017408 ≤ pw 1 := ⟨Fn.one, by rw [mg_one, pw_one]; decide⟩
  have hlist : ∀ l : List Int, (∀ x ∈ l, Fn x ∧ mg x ≤ pw 1) → ∀ i, Fn (l.getD i 0) ∧ mg (l.getD i 0) ≤ pw 1 := fun l hl i => by
    rcases Nat.lt_or_ge i l.length with h | h
    · exact hl _ (getD_mem' h)
    · rw [List.getD_eq_getElem?_getD, List.getElem?_eq_none h]; exact z1
  have x0 : Fn (xs.getD 0 0) ∧ mg (xs.getD 0 0) ≤ pw k := ⟨hx _ (getD_mem' (by omega)), hb _ (getD_mem' (by omega))⟩
  by_cases hB : genB xs = true
  · unfold genV genT genK
    rw [if_pos hB, if_pos hB, if_pos hB]
    refine ⟨hlist _ fun x hx => ?_, ⟨Fn.zero, by rw [mg_z]; exact pw_nn _⟩, x0.1, Rat.le_trans x0.2 (pw_le (by omega))⟩
    unfold genZ at hx
    rcases List.mem_or_eq_of_mem_set hx with h | rfl
    · rw [List.mem_replicate] at h
      rw [h.2]; exact z1
    · exact o1
  · have hp : (powerM xs).2 = true := by
      unfold genB at hB
      simp only [Bool.or_eq_true, Bool.not_eq_true', not_or, Bool.not_eq_false] at hB
      exact hB.1.1
    obtain ⟨M, hU⟩ := unit_val hx hp
    have hUe : unitL xs (powerM xs).1 = genU xs := rfl
    rw [hUe] at hU
    have hul := hU.len
    obtain ⟨n1, n2, n3, n4⟩ := nrm_val (us := genU xs) (M := M) (fun i hi => ⟨(hU.fl i (by omega)).fn, hU.le i (by omega)⟩) (by obtain ⟨i, h1, h2⟩ := hU.top; exact ⟨i, by omega, h2⟩) hU.lo hU.hi (by omega)
    have n5 : mg (nrm2M (genU xs)) ≤ pw 4 := by
      refine Rat.le_trans n4 ?_
      rw [pw_lit (n := 4) (k := 16) (by decide) (by decide)]
      exact ile (by omega)
    have u0 : Fn ((genU xs).getD 0 0) ∧ mg ((genU xs).getD 0 0) ≤ pw 1 := ⟨(hU.fl 0 (by omega)).fn, by rw [pw_one]; exact Rat.le_trans (hU.le 0 (by omega)) (Rat.le_of_lt hU.hi)⟩
    have hbeta : Fn (genBeta xs) ∧ mg (genBeta xs) = mg (nrm2M (genU xs)) ∧ (0 ≤ val ((genU xs).getD 0 0) ∧ val (genBeta xs) ≤ 0 ∨ val ((genU xs).getD 0 0) ≤ 0 ∧ 0 ≤ val (genBeta xs)) := by
      have h0 := u0.1.mg0
      have h1 : 0 ≤ mg (nrm2M (genU xs)) := n1.mg0
      unfold genBeta
      by_cases hn : negM ((genU xs).getD 0 0) = true
      · rw [if_pos hn]
        refine ⟨n1, rfl, .inr ⟨?_, by rw [n2]; exact h1⟩⟩
        unfold val sgn
        rw [if_pos hn]
        grind
      · rw [if_neg hn]
        refine ⟨n1.flip, flip_mg n1.inu n1.fin, .inl ⟨?_, ?_⟩⟩
        · unfold val sgn
          rw [if_neg hn]
          grind
        · rw [flip_val n1.inu n1.fin, n2]
          grind
    obtain ⟨b1, b2, b3⟩ := hbeta
    have b4 : Fn (genBeta xs) ∧ mg (genBeta xs) ≤ pw 4 := ⟨b1, by rw [b2]; exact n5⟩
    have b5 : 1 ≤ mg (genBeta xs) := by rw [b2]; exact n3
    have u4 : Fn ((genU xs).getD 0 0) ∧ mg ((genU xs).getD 0 0) ≤ pw 4 := ⟨u0.1, Rat.le_trans u0.2 (pw_le (by decide))⟩
    have hD : Fn (genD xs) ∧ 1 ≤ mg (genD xs) := by
      have e1 : ab (val ((genU xs).getD 0 0) - val (genBeta xs)) ≤ pw 5 := by
        have : ∀ x y : Rat, x - y = x + -y := fun x y => by grind
        rw [this]
        refine Rat.le_trans (ab_add _ _) ?_
        rw [ab_neg, u4.1.ab, b1.ab, show (5 : Int) = 4 + 1 by decide, pw_succ]
        have : ∀ p q r : Rat, p ≤ r → q ≤ r → p + q ≤ 2 * r := fun p q r h h' => by grind
        exact this _ _ _ u4.2 b4.2
      have e2 := fl_sub u4.1 b1 (Rat.le_trans e1 (pw_le (by decide)))
      refine ⟨e2.fn, e2.dn 1 ?_ ?_⟩
      · have := rep_pw (k := 0) (by decide)
        rwa [pw_zero] at this
      · refine Rat.le_trans ?_ (opp_ge b3)
        rw [b1.ab]; exact b5
    unfold genV genT genK
    rw [if_neg hB, if_neg hB, if_neg hB]
    refine ⟨hlist _ fun x hx => ?_, ?_, ?_⟩
    · rcases List.mem_cons.1 hx with rfl | hx
      · exact o1
      · obtain ⟨i, hi, rfl⟩ := List.mem_map.1 hx
        rw [List.mem_range] at hi
        refine quo_b (hU.fl (1 + i) (by omega)).fn hD.1 hD.2 ?_ (by decide)
        rw [pw_one]
        exact Rat.le_trans (hU.le (1 + i) (by omega)) (Rat.le_of_lt hU.hi)
    · exact quo_b (sum_b b4 (flip_b u4) (by decide)).1 b1 b5 (sum_b b4 (flip_b u4) (by decide)).2 (by decide)
    · rcases power_val hx with ⟨h, _⟩ | ⟨_, ⟨x, hxm, hxp, _⟩, _, e1, e2⟩
      · rw [h] at hp; cases hp
      · have h1 : mg (genBeta xs) * pw (powerM xs).1 ≤ pw (k + 4) := by
          rw [Int.add_comm, pw_add]
          exact mul2 b4.2 (Rat.le_trans hxp (hb x hxm)) b1.mg0 (pw_nn _)
        have h2 := fl_scale b1 (n := (powerM xs).1) (by omega) (Rat.le_trans h1 (pw_le (by omega)))
        exact ⟨h2.fn, h2.up _ (rep_pw (by omega)) (by rw [ab_mul, b1.ab, ab_of (pw_nn _)]; exact h1)⟩
theorem sum_all {V : List Int} {x : Nat → Int} {g : Int} {k : Int} (hk : 0 ≤ k ∧ k ≤ 900) (hV : ∀ i, Fn (V.getD i 0) ∧ mg (V.getD i 0) ≤ pw 1) : ∀ n : Nat, n ≤ 7 → (∀ i, i < n → Fn (x i) ∧ mg (x i) ≤ pw k) → Fn (sumS V x g n).1 ∧ mg (sumS V x g n).1 ≤ (((n : Nat) : Int) : Rat) * pw (k + 1)
  | 0, _, _ => ⟨Fn.zero, by rw [show (sumS V x g 0).1 = 0 from rfl, mg_z]; exact mulnn (ile (a := 0) (by decide)) (pw_nn _)⟩
  | n + 1, hn, hx => by
    obtain ⟨h1, h2⟩ := sum_all (g := g) hk hV n (by omega) (fun i hi => hx i (by omega))
    have h3 := mul_b (k := 1) (l := k) (hV n) (hx n (by omega)) (by omega)
    rw [Int.add_comm] at h3
    rw [show (sumS V x g (n + 1)).1 = (addM (sumS V x g n).1 (mulM (V.getD n 0) (x n)).1).1 from rfl]
    have h4 : ab (val (sumS V x g n).1 + val (mulM (V.getD n 0) (x n)).1) ≤ (((n + 1 : Nat) : Int) : Rat) * pw (k + 1) := by
      refine Rat.le_trans (ab_add _ _) ?_
      rw [h1.ab, h3.1.ab]
      have e : (((n + 1 : Nat) : Int) : Rat) = (((n : Nat) : Int) : Rat) + 1 := by push_cast; rfl
      rw [e]
      have : ∀ p q a b : Rat, p ≤ a * b → q ≤ b → p + q ≤ (a + 1) * b := fun p q a b h h' => by grind
      exact this _ _ _ _ h2 h3.2
    have h5 : (((n + 1 : Nat) : Int) : Rat) * pw (k + 1) ≤ pw 1023 := by
      have h6 := mulr (show (((n + 1 : Nat) : Int) : Rat) ≤ (((8 : Int) : Int) : Rat) from ile (by omega)) (pw_nn (k + 1))
      rw [← pw_lit (n := 3) (k := 8) (by decide) (by decide), ← pw_add] at h6
      exact Rat.le_trans h6 (pw_le (by omega))
    have h7 := fl_add h1 h3.1 (Rat.le_trans h4 h5)
    exact ⟨h7.fn, h7.up _ ⟨((n + 1 : Nat) : Int), k + 1, by omega, by omega, by omega, rfl⟩ h4⟩
theorem sum_top {V : List Int} {x : Nat → Int} {g : Int} {k : Int} (hk : 0 ≤ k ∧ k ≤ 900) (hV : ∀ i, Fn (V.getD i 0) ∧ mg (V.getD i 0) ≤ pw 1) {n : Nat} (hn : n ≤ 7) (hx : ∀ i, i < n → Fn (x i) ∧ mg (x i) ≤ pw k) : Fn (sumS V x g n).1 ∧ mg (sumS V x g n).1 ≤ pw (k + 4) := by
  obtain ⟨h1, h2⟩ := sum_all (g := g) hk hV n hn hx
  refine ⟨h1, Rat.le_trans h2 ?_⟩
  have h6 := mulr (show (((n : Nat) : Int) : Rat) ≤ (((8 : Int) : Int) : Rat) from ile (by omega)) (pw_nn (k + 1))
  rw [← pw_lit (n := 3) (k := 8) (by decide) (by decide), ← pw_add] at h6
  rw [show 3 + (k + 1) = k + 4 by omega] at h6
  exact h6
theorem put_all {r c : Int} {V : List Int} {m k : Nat} {t : Int} {S : List Int × Int} {k0 : Int} (hk0 : 0 ≤ k0 ∧ k0 ≤ 900) (hD : MatOk r c S.1) (hA : AllB S.1 (pw k0)) (hV : ∀ i, Fn (V.getD i 0) ∧ mg (V.getD i 0) ≤ pw 1) (ht : Fn t ∧ mg t ≤ pw (k0 + 9)) {l : Nat} (hl : ((m + l : Nat) : Int) ≤ r) (hk : (k : Int) < c) :
    MatOk r c (putS r c V (m : Int) k t S l).1 ∧ AllB (putS r c V (m : Int) k t S l).1 (pw (k0 + 11)) := by
  have key : ∀ n : Nat, n ≤ l → (MatOk r c (putS r c V (m : Int) k t S n).1 ∧ AllB (putS r c V (m : Int) k t S n).1 (pw (k0 + 11))) ∧ ∀ j : Nat, n ≤ j → j < l → atM r c c (putS r c V (m : Int) k t S n).1 ((m + j : Nat) : Int) k = atM r c c S.1 ((m + j : Nat) : Int) k := by
    intro n
    induction n with
    | zero => intro _; exact ⟨⟨hD, hA.mono (pw_le (by omega))⟩, fun _ _ _ => rfl⟩
    | succ n ih =>
      intro hn
      obtain ⟨⟨i1, i2⟩, i3⟩ := ih (by omega)
      have hx := hA.at hD (i := m + n) (k := k) (by omega) hk
      have e1 : ((m : Int) + (n : Int)) = ((m + n : Nat) : Int) := by omega
      have hp : (putS r c V (m : Int) k t S (n + 1)).1 = setM r c c (putS r c V (m : Int) k t S n).1 ((m : Int) + (n : Int)) k (addM (atM r c c (putS r c V (m : Int) k t S n).1 ((m : Int) + (n : Int)) k) (flipM (mulM (V.getD n 0) t).1)).1 := rfl
      rw [hp, e1, i3 n (Nat.le_refl _) (by omega)]
      have h1 := mul_b (k := 1) (l := k0 + 9) (hV n) ht (by omega)
      have h2 := sum_b (k := k0 + 10) ⟨hx.1, Rat.le_trans hx.2 (pw_le (by omega))⟩ (flip_b ⟨h1.1, Rat.le_trans h1.2 (pw_le (by omega))⟩) (by omega)
      refine ⟨⟨i1.set _ _ _, i2.setm _ _ _ _ _ ⟨h2.1, Rat.le_trans h2.2 (pw_le (by omega))⟩⟩, fun j hj hjl => ?_⟩
      rw [at_set_ne i1 (by omega) hk (by omega) hk (by omega)]
      exact i3 j (by omega) hjl
  exact (key l (Nat.le_refl _)).1
theorem col_all {r c : Int} {V : List Int} {tau : Int} {m k : Nat} {S : List Int × Int} {k0 : Int} (hk0 : 0 ≤ k0 ∧ k0 ≤ 900) (hD : MatOk r c S.1) (hA : AllB S.1 (pw k0)) (hV : ∀ i, Fn (V.getD i 0) ∧ mg (V.getD i 0) ≤ pw 1) (ht : Fn tau ∧ mg tau ≤ pw 5) (hl : ((m + V.length : Nat) : Int) ≤ r) (hl7 : V.length ≤ 7) (hk : (k : Int) < c) :
    MatOk r c (colS r c V tau (m : Int) k S).1 ∧ AllB (colS r c V tau (m : Int) k S).1 (pw (k0 + 11)) := by
  unfold colS
  have h1 := sum_top (V := V) (x := fun i => atM r c c S.1 ((m : Int) + i) k) (g := S.2) hk0 hV hl7 (fun i hi => by
    have e1 : ((m : Int) + (i : Int)) = ((m + i : Nat) : Int) := by omega
    show Fn (atM r c c S.1 ((m : Int) + i) k) ∧ _
    rw [e1]
    exact hA.at hD (by omega) hk)
  have h2 := mul_b (k := 5) (l := k0 + 4) ht h1 (by omega)
  have h3 := fun g => put_all (S := (S.1, g)) hk0 hD hA hV ⟨h2.1, Rat.le_trans h2.2 (pw_le (by omega))⟩ hl hk
  exact h3 _
theorem left_all {r c : Int} {V : List Int} {tau : Int} {m : Nat} {S : List Int × Int} {k0 : Int} (hk0 : 0 ≤ k0 ∧ k0 + 11 * c.toNat ≤ 900) (hD : MatOk r c S.1) (hA : AllB S.1 (pw k0)) (hV : ∀ i, Fn (V.getD i 0) ∧ mg (V.getD i 0) ≤ pw 1) (ht : Fn tau ∧ mg tau ≤ pw 5) (hl : ((m + V.length : Nat) : Int) ≤ r) (hl7 : V.length ≤ 7) :
    MatOk r c (leftR r c V tau (m : Int) S).1 ∧ AllB (leftR r c V tau (m : Int) S).1 (pw (k0 + 11 * c.toNat)) := by
  unfold leftR
  split
  · exact ⟨hD, hA.mono (pw_le (by omega))⟩
  · refine iter_ind (fun (j : Nat) (S : List Int × Int) => MatOk r c S.1 ∧ AllB S.1 (pw (k0 + 11 * (j : Int)))) (m := c.toNat) (by simpa using ⟨hD, hA⟩) (fun j S hj hS => ?_) c.toNat (Nat.le_refl _)
    have := col_all (k := j) (k0 := k0 + 11 * (j : Int)) (by omega) hS.1 hS.2 hV ht hl hl7 (by omega)
    have e : k0 + 11 * (j : Int) + 11 = k0 + 11 * ((j + 1 : Nat) : Int) := by omega
    rw [e] at this
    exact this
theorem turn_all {r c : Int} {D : List Int} {B : Rat} (hD : MatOk r c D) (hA : AllB D B) : AllB (mturnM r c D) B := by
  intro x hx
  unfold mturnM genM at hx
  obtain ⟨t, ht, rfl⟩ := List.mem_map.1 hx
  rw [List.mem_range] at ht
  have hr := hD.r0
  have hc := hD.c0
  obtain ⟨r, rfl⟩ := Int.eq_ofNat_of_zero_le hr
  obtain ⟨c, rfl⟩ := Int.eq_ofNat_of_zero_le hc
  have e1 : ((c : Int) * (r : Int)).toNat = c * r := by exact_mod_cast Int.toNat_natCast (c * r)
  rw [e1] at ht
  have hr0 : 0 < r := by
    rcases Nat.eq_zero_or_pos r with e | e
    · subst e; simp at ht
    · exact e
  have h1 : t / r < c := Nat.div_lt_of_lt_mul (by rw [Nat.mul_comm]; exact ht)
  have h2 := Nat.mod_lt t hr0
  rw [Int.toNat_natCast]
  exact hA.at hD (by omega) (by omega)
theorem right_all {r c : Int} {V : List Int} {tau : Int} {m : Nat} {S : List Int × Int} {k0 : Int} (hk0 : 0 ≤ k0 ∧ k0 + 11 * r.toNat ≤ 900) (hD : MatOk r c S.1) (hA : AllB S.1 (pw k0)) (hV : ∀ i, Fn (V.getD i 0) ∧ mg (V.getD i 0) ≤ pw 1) (ht : Fn tau ∧ mg tau ≤ pw 5) (hl : ((m + V.length : Nat) : Int) ≤ c) (hl7 : V.length ≤ 7) :
    MatOk r c (rightR r c V tau (m : Int) S).1 ∧ AllB (rightR r c V tau (m : Int) S).1 (pw (k0 + 11 * r.toNat)) := by
  have h1 := left_all (S := (mturnM r c S.1, S.2)) hk0 (mturn_ok hD) (turn_all hD hA) hV ht hl hl7
  exact ⟨mturn_ok h1.1, turn_all h1.1 h1.2⟩
/-- A square and one that goes with it, step by step to Hessenberg's form: no number gets great. -/
structure Rb (n : Int) (S : List Int × List Int) (k0 : Int) : Prop where
  a : MatOk n n S.1
  b : AllB S.1 (pw k0)
  c : MatOk n n S.2
  d : AllB S.2 (pw k0)
theorem zero_all {n : Int} {D : List Int} {B : Rat} (hB : 0 ≤ B) (h : MatOk n n D) (hA : AllB D B) (k : Nat) : ∀ m, MatOk n n (zeroM n k m D) ∧ AllB (zeroM n k m D) B
  | 0 => ⟨h, hA⟩
  | m + 1 => ⟨(zero_all hB h hA k m).1.set _ _ _, (zero_all hB h hA k m).2.setm _ _ _ _ _ ⟨Fn.zero, by rw [mg_z]; exact hB⟩⟩
theorem red_step {n : Int} (hn : n ≤ 7) {k : Nat} {S : List Int × List Int} {k0 : Int} (h : Rb n S k0) (hk0 : 0 ≤ k0 ∧ k0 ≤ 700) (hk : ((k + 2 : Nat) : Int) < n) : finL (colL n S.1 k (n.toNat - (k + 1))) = true ∧ Rb n (redS n k S) (k0 + 154) := by
  have hcl := colL_len n S.1 k (n.toNat - (k + 1))
  have hce : ∀ x ∈ colL n S.1 k (n.toNat - (k + 1)), Fn x ∧ mg x ≤ pw k0 := fun x hx => by
    obtain ⟨i, hi, rfl⟩ := List.mem_map.1 hx
    rw [List.mem_range] at hi
    exact h.b.at h.a (by omega) (by omega)
  obtain ⟨g1, g2, g3⟩ := gen_b (fun x hx => (hce x hx).1) (by rw [hcl]; omega) (k := k0) (by omega) (fun x hx => (hce x hx).2)
  have hgl : (genV (colL n S.1 k (n.toNat - (k + 1)))).length = n.toNat - (k + 1) := by rw [genV_len (by rw [hcl]; omega), hcl]
  refine ⟨List.all_eq_true.2 fun x hx => (hce x hx).1.fin, ?_⟩
  obtain ⟨V, hV⟩ : ∃ V, genV (colL n S.1 k (n.toNat - (k + 1))) = V := ⟨_, rfl⟩
  obtain ⟨tau, hT⟩ : ∃ T, genT (colL n S.1 k (n.toNat - (k + 1))) = T := ⟨_, rfl⟩
  rw [hV] at g1 hgl
  rw [hT] at g2
  have hl : ((k + 1 + V.length : Nat) : Int) ≤ n := by omega
  have L := left_all (S := (S.1, 0)) (m := k + 1) (k0 := k0) (by omega) h.a h.b g1 g2 hl (by omega)
  have R := right_all (S := leftR n n V tau ((k + 1 : Nat) : Int) (S.1, 0)) (m := k + 1) (k0 := k0 + 11 * n.toNat) (by omega) L.1 L.2 g1 g2 hl (by omega)
  have Q := right_all (S := (S.2, (rightR n n V tau ((k + 1 : Nat) : Int) (leftR n n V tau ((k + 1 : Nat) : Int) (S.1, 0))).2)) (m := k + 1) (k0 := k0) (by omega) h.c h.d g1 g2 hl (by omega)
  unfold redS both2
  dsimp only
  rw [hV, hT]
  have hR2 := R.2.mono (pw_le (show k0 + 11 * (n.toNat : Int) + 11 * (n.toNat : Int) ≤ k0 + 154 by omega))
  have z := zero_all (pw_nn (k0 + 154)) (R.1.set ((k + 1 : Nat) : Int) (k : Int) (genK (colL n S.1 k (n.toNat - (k + 1)))).1) (hR2.setm n n n ((k + 1 : Nat) : Int) (k : Int) ⟨g3.1, Rat.le_trans g3.2 (pw_le (by omega))⟩) k (n.toNat - (k + 2))
  exact ⟨z.1, z.2, Q.1, Q.2.mono (pw_le (by omega))⟩
theorem red_end {n : Int} (hn : n ≤ 7) : ∀ (f k : Nat) (S : List Int × List Int), Rb n S (1 + 154 * (k : Int)) → (redL n f k S).1 = 0
  | 0, _, _, _ => rfl
  | f + 1, k, S, h => by
    unfold redL
    split
    · rename_i hk
      have hk : ((k + 2 : Nat) : Int) < n := hk
      obtain ⟨h1, h2⟩ := red_step hn h (by omega) hk
      rw [if_pos h1]
      have e : 1 + 154 * (k : Int) + 154 = 1 + 154 * ((k + 1 : Nat) : Int) := by omega
      rw [e] at h2
      exact red_end hn f (k + 1) _ h2
    · rfl
/-- hess.Reduce of any numbers ends well. -/
theorem red_ok {n : Int} {D : List Int} (h : MatOk n n D) (hn : n ≤ 7) (hf : ∀ x ∈ D, Fn x) : (redM n D).1 = 0 := by
  refine red_end hn n.toNat 0 _ ⟨unitD_ok h, fun x hx => ?_, oneM_ok ⟨h.r0, h.r1⟩, fun x hx => ?_⟩
  · exact unit_all h hf x hx
  · have hone : AllB (oneM n) (pw 0) := by
      refine iter_ind (fun _ D => AllB D (pw 0)) (m := n.toNat) (fun x hx => ?_) (fun k D _ hD => hD.setm _ _ _ _ _ ⟨Fn.one, by rw [mg_one, pw_zero]; exact Rat.le_refl⟩) n.toNat (Nat.le_refl _)
      rw [List.mem_replicate] at hx
      rw [hx.2]
      exact ⟨Fn.zero, by rw [mg_z]; exact pw_nn _⟩
    exact ⟨(hone x hx).1, Rat.le_trans (hone x hx).2 (pw_le (by decide))⟩
end Go.Proofs.YtblgabpgafbfiaaDoor.M
