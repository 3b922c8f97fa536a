/- A matrix divided by the power of two beneath its greatest number; one times a power of two, where nothing is lost. -/
import Derived.Test.YtcikcinkjbbnhaaDoorY9
set_option linter.unusedSimpArgs false
set_option linter.unusedVariables false
set_option maxRecDepth 10000
set_option maxHeartbeats 400000
namespace Go.Proofs.YtcikcinkjbbnhaaDoor.M
open Go Go.Proofs

theorem at_fn {r c : Int} {D : List Int} (h : MatOk r c D) (hf : ∀ x ∈ D, Fn x) {i k : Nat} (hi : (i : Int) < r) (hk : (k : Int) < c) : Fn (atM r c c D i k) := by
  rw [atM_in' h hi hk]
  have hl := place_lt h.r0 h.c0 hi hk
  rw [← h.len] at hl
  exact hf _ (getD_mem' hl)
theorem at_idx {r c : Int} {D : List Int} (h : MatOk r c D) {t : Nat} (ht : t < D.length) : ∃ i k : Nat, (i : Int) < r ∧ (k : Int) < c ∧ atM r c c D i k = D.getD t 0 := by
  have hr := h.r0
  have hc := h.c0
  obtain ⟨r, rfl⟩ := Int.eq_ofNat_of_zero_le hr
  obtain ⟨c, rfl⟩ := Int.eq_ofNat_of_zero_le hc
  have hl : D.length = r * c := by rw [h.len]; exact_mod_cast Int.toNat_natCast (r * c)
  rw [hl] at ht
  have hc0 : 0 < c := by
    rcases Nat.eq_zero_or_pos c with e | e
    · subst e; simp at ht
    · exact e
  have h1 : t / c < r := Nat.div_lt_of_lt_mul (by rw [Nat.mul_comm]; exact ht)
  have h2 := Nat.mod_lt t hc0
  refine ⟨t / c, t % c, by omega, by omega, ?_⟩
  rw [atM_in' h (by omega) (by omega), Int.toNat_natCast]
  congr 1
  have := Nat.div_add_mod t c
  rw [Nat.mul_comm]; exact this
structure Mo (r c : Int) (D : List Int) (p : Nat → Nat → Prop) (s : Int) : Prop where
  fn : Fn s
  ab : absM s = s
  ge : ∀ i k : Nat, (i : Int) < r → (k : Int) < c → p i k → mg (atM r c c D i k) ≤ mg s
  eq : s = 0 ∨ ∃ i k : Nat, (i : Int) < r ∧ (k : Int) < c ∧ mg (atM r c c D i k) = mg s
theorem Mo.step {r c : Int} {D : List Int} (h : MatOk r c D) (hf : ∀ x ∈ D, Fn x) {p : Nat → Nat → Prop} {s : Int} (hs : Mo r c D p s) {i k : Nat} (hi : (i : Int) < r) (hk : (k : Int) < c) : Mo r c D (fun a b => p a b ∨ a = i ∧ b = k) (mostS r c D i k s) := by
  have hx := at_fn h hf hi hk
  have ha := abs_fn hx
  have hle : mg s ≤ mg (mostS r c D i k s) ∧ mg (atM r c c D i k) ≤ mg (mostS r c D i k s) := by
    unfold mostS
    split
    · rename_i hlt
      refine ⟨ab_ord hs.fn ha.1 ?_, by rw [ha.2]; exact Rat.le_refl⟩
      rw [hs.ab, absM_abs hx.inu]; omega
    · rename_i hlt
      refine ⟨Rat.le_refl, ab_ord hx hs.fn ?_⟩
      rw [hs.ab]; omega
  refine ⟨?_, ?_, fun a b h1 h2 h3 => ?_, ?_⟩
  · unfold mostS
    split
    · exact ha.1
    · exact hs.fn
  · unfold mostS
    split
    · exact absM_abs hx.inu
    · exact hs.ab
  · rcases h3 with h3 | ⟨rfl, rfl⟩
    · exact Rat.le_trans (hs.ge a b h1 h2 h3) hle.1
    · exact hle.2
  · unfold mostS
    split
    · exact .inr ⟨i, k, hi, hk, ha.2.symm⟩
    · exact hs.eq
theorem Mo.imp {r c : Int} {D : List Int} {p q : Nat → Nat → Prop} {s : Int} (h : Mo r c D p s) (hpq : ∀ a b : Nat, (a : Int) < r → (b : Int) < c → q a b → p a b) : Mo r c D q s := ⟨h.fn, h.ab, fun i k h1 h2 h3 => h.ge i k h1 h2 (hpq i k h1 h2 h3), h.eq⟩
theorem mo_row {r c : Int} {D : List Int} (h : MatOk r c D) (hf : ∀ x ∈ D, Fn x) {i : Nat} (hi : (i : Int) < r) {s : Int} (hs : Mo r c D (fun a _ => a < i) s) : ∀ n : Nat, (n : Int) ≤ c → Mo r c D (fun a b => a < i ∨ a = i ∧ b < n) (mostR r c D i n s)
  | 0, _ => hs.imp fun a b _ _ h => by rcases h with h | h <;> omega
  | n + 1, hn => ((mo_row h hf hi hs n (by omega)).step h hf hi (k := n) (by omega)).imp fun a b _ _ h => by omega
theorem mo_all {r c : Int} {D : List Int} (h : MatOk r c D) (hf : ∀ x ∈ D, Fn x) : ∀ n : Nat, (n : Int) ≤ r → Mo r c D (fun a _ => a < n) (mostM r c D n)
  | 0, _ => ⟨Fn.zero, (by decide : absM 0 = 0), fun i k _ _ h => absurd h (by omega), .inl rfl⟩
  | n + 1, hn => (mo_row h hf (i := n) (by omega) (mo_all h hf n (by omega)) c.toNat (by have := h.c0; omega)).imp fun a b _ _ h => by omega
/-- What is beneath the greatest number of a matrix. -/
theorem unit_mval {r c : Int} {D : List Int} (h : MatOk r c D) (hf : ∀ x ∈ D, Fn x) : (unitE r c D = 0 ∧ unitD r c D = D ∧ ∀ x ∈ D, mg x = 0) ∨
    ((∃ x ∈ D, pw (unitE r c D) ≤ mg x) ∧ (∀ x ∈ D, mg x < pw (unitE r c D + 1)) ∧ unitD r c D = scaleD (-unitE r c D) D ∧ -1074 ≤ unitE r c D ∧ unitE r c D ≤ 1023) := by
  have hr := h.r0
  have hm := mo_all h hf r.toNat (by omega)
  have hge : ∀ x ∈ D, mg x ≤ mg (mostM r c D r.toNat) := fun x hx => by
    obtain ⟨t, ht, rfl⟩ := mem_getD hx
    obtain ⟨i, k, h1, h2, h3⟩ := at_idx h ht
    rw [← h3]
    exact hm.ge i k h1 h2 (by omega)
  have pa := parts53 hm.fn.inu
  have ea := part_e hm.fn.inu hm.fn.fin
  by_cases h0 : (partsM (mostM r c D r.toNat)).1 = 0
  · left
    have hz : mg (mostM r c D r.toNat) = 0 := by unfold mg; rw [h0, Rat.intCast_zero, Rat.zero_mul]
    refine ⟨by unfold unitE unitP; rw [if_pos h0], by unfold unitD unitP; rw [if_pos h0], fun x hx => ?_⟩
    have h1 := hge x hx
    rw [hz] at h1
    exact Rat.le_antisymm h1 (hf x hx).mg0
  · right
    have e64 : (2 : Int) ^ 64 = 18446744073709551616 := by decide
    obtain ⟨p1, p2, p3, p4⟩ := powE_val 64 (partsM (mostM r c D r.toNat)).1 (partsM (mostM r c D r.toNat)).2 (parts_in hm.fn.inu) (by omega) (by omega) (by omega) (by omega)
    have hmg : mg (mostM r c D r.toNat) = ((partsM (mostM r c D r.toNat)).1 : Rat) * pw (partsM (mostM r c D r.toNat)).2 := rfl
    rw [← hmg] at p1 p2
    have hE : unitE r c D = powE 64 (partsM (mostM r c D r.toNat)).1 (partsM (mostM r c D r.toNat)).2 := by unfold unitE unitP; rw [if_neg h0]
    rw [← hE] at p1 p2 p3 p4
    have hup : unitE r c D ≤ 1023 := by
      have h1 := mg_lt hm.fn.inu hm.fn.fin
      have h2 := pw_inv (lelt p1 h1)
      omega
    refine ⟨?_, fun x hx => lelt (hge x hx) p2, ?_, by omega, hup⟩
    · rcases hm.eq with e | ⟨i, k, h1, h2, h3⟩
      · exfalso
        rw [e, mg_z] at p1
        have := pw_pos (unitE r c D)
        grind
      · refine ⟨atM r c c D i k, ?_, by rw [h3]; exact p1⟩
        rw [atM_in' h h1 h2]
        have hl := place_lt h.r0 h.c0 h1 h2
        rw [← h.len] at hl
        exact getD_mem' hl
    · unfold unitD unitP
      rw [if_neg h0, wrap_i64 (by omega)]
theorem or_small : ∀ a b : Fin 8, (bits .or .u8 ((a.1 : Nat) : Int) ((b.1 : Nat) : Int) = 0 → a.1 = 0 ∧ b.1 = 0) ∧ 0 ≤ bits .or .u8 ((a.1 : Nat) : Int) ((b.1 : Nat) : Int) ∧ bits .or .u8 ((a.1 : Nat) : Int) ((b.1 : Nat) : Int) < 8 := by decide +kernel
theorem or_sm {a b : Int} (ha : 0 ≤ a ∧ a < 8) (hb : 0 ≤ b ∧ b < 8) : (bits .or .u8 a b = 0 → a = 0 ∧ b = 0) ∧ 0 ≤ bits .or .u8 a b ∧ bits .or .u8 a b < 8 := by
  obtain ⟨a, rfl⟩ := Int.eq_ofNat_of_zero_le ha.1
  obtain ⟨b, rfl⟩ := Int.eq_ofNat_of_zero_le hb.1
  have := or_small ⟨a, by omega⟩ ⟨b, by omega⟩
  refine ⟨fun h => ?_, this.2⟩
  have := this.1 h
  simp only at this
  omega
theorem scale_fl {a n : Int} (ha : Fn a) (hn : -1900 ≤ n ∧ n ≤ 1900) : (0 ≤ (scaleM a n).2 ∧ (scaleM a n).2 < 8) ∧ ((scaleM a n).2 = 0 → Fn (scaleM a n).1 ∧ negM (scaleM a n).1 = negM a ∧ mg (scaleM a n).1 = mg a * pw n) := by
  obtain ⟨ρ, h⟩ := scale_val ha.inu ha.fin hn
  refine ⟨by rcases h.fl with e | e | e | e | e <;> omega, fun h0 => ?_⟩
  have h1 : ρ < pw 1024 := by
    rcases Rat.le_total (a := pw 1024) (b := ρ) with h2 | h2
    · exfalso
      have := h.fo.2 h2
      omega
    · by_cases e : ρ = pw 1024
      · exfalso
        have := h.fo.2 (by rw [e]; exact Rat.le_refl)
        omega
      · grind
  obtain ⟨f1, f2, f3⟩ := h.fin h1
  exact ⟨⟨h.inu, f1⟩, f2, by rw [f3, h.f0 h0]⟩
theorem scaleG_val {D : List Int} (hf : ∀ x ∈ D, Fn x) {n : Int} (hn : -1900 ≤ n ∧ n ≤ 1900) : ∀ k : Nat, k ≤ D.length → (0 ≤ scaleG n D k ∧ scaleG n D k < 8) ∧ (scaleG n D k = 0 → ∀ t, t < k → (scaleM (D.getD t 0) n).2 = 0)
  | 0, _ => ⟨⟨Int.le_refl _, (by decide : (0 : Int) < 8)⟩, fun _ t ht => absurd ht (by omega)⟩
  | k + 1, hk => by
    obtain ⟨h1, h2⟩ := scaleG_val hf hn k (by omega)
    have h3 := (scale_fl (hf _ (getD_mem' (xs := D) (i := k) (by omega))) hn).1
    have h4 := or_sm h1 h3
    refine ⟨h4.2, fun h0 t ht => ?_⟩
    have h5 := h4.1 h0
    rcases Nat.lt_or_ge t k with h | h
    · exact h2 h5.1 t h
    · have : t = k := by omega
      subst this
      exact h5.2
/-- One times a power of two, where nothing is lost. -/
theorem scale_list {D : List Int} (hf : ∀ x ∈ D, Fn x) {n : Int} (hn : -1900 ≤ n ∧ n ≤ 1900) (h0 : scaleG n D D.length = 0) : ∀ t, t < D.length → Fn ((scaleD n D).getD t 0) ∧ negM ((scaleD n D).getD t 0) = negM (D.getD t 0) ∧ mg ((scaleD n D).getD t 0) = mg (D.getD t 0) * pw n := fun t ht => by
  have h1 := (scaleG_val hf hn D.length (Nat.le_refl _)).2 h0 t ht
  rw [scaleD_get n D ht]
  exact (scale_fl (hf _ (getD_mem' ht)) hn).2 h1
theorem list_eq {A B : List Int} (hl : A.length = B.length) (h : ∀ t, t < A.length → A.getD t 0 = B.getD t 0) : A = B := by
  refine List.ext_getElem hl fun t h1 h2 => ?_
  have := h t h1
  rw [List.getD_eq_getElem?_getD, List.getD_eq_getElem?_getD, List.getElem?_eq_getElem h1, List.getElem?_eq_getElem h2] at this
  exact this
theorem scale_zero {a n : Int} (h : Fn a) (hz : mg a = 0) : (scaleM a n).1 = a := by
  have := (mg_zero h.inu h.fin).1 hz
  unfold scaleM
  rw [if_neg (fin_kk h.fin).1, if_pos (.inr this)]
theorem unit_scale {r c : Int} {D : List Int} (h : MatOk r c D) (hf : ∀ x ∈ D, Fn x) {n : Int} (hn : -200 ≤ n ∧ n ≤ 200) (h0 : scaleG n D D.length = 0) :
    (∀ x ∈ scaleD n D, Fn x) ∧ unitD r c (scaleD n D) = unitD r c D ∧ (unitE r c (scaleD n D) = unitE r c D + n ∨ ∀ x ∈ D, mg x = 0) := by
  have hs := scale_list hf (by omega) h0
  have hl : (scaleD n D).length = D.length := scaleD_len n D
  have hok : MatOk r c (scaleD n D) := ⟨h.r0, h.r1, h.c0, h.c1, hl.trans h.len⟩
  have hf' : ∀ x ∈ scaleD n D, Fn x := fun x hx => by
    obtain ⟨t, ht, rfl⟩ := mem_getD hx
    exact (hs t (by omega)).1
  refine ⟨hf', ?_⟩
  have u1 := unit_mval h hf
  have u2 := unit_mval hok hf'
  by_cases hz : ∀ x ∈ D, mg x = 0
  · have hz' : ∀ x ∈ scaleD n D, mg x = 0 := fun x hx => by
      obtain ⟨t, ht, rfl⟩ := mem_getD hx
      rw [(hs t (by omega)).2.2, hz _ (getD_mem' (by omega)), Rat.zero_mul]
    have e1 : unitD r c D = D := by
      rcases u1 with ⟨_, e, _⟩ | ⟨⟨x, hx, hp⟩, _⟩
      · exact e
      · exfalso
        rw [hz x hx] at hp
        have := pw_pos (unitE r c D)
        grind
    have e2 : unitD r c (scaleD n D) = scaleD n D := by
      rcases u2 with ⟨_, e, _⟩ | ⟨⟨x, hx, hp⟩, _⟩
      · exact e
      · exfalso
        rw [hz' x hx] at hp
        have := pw_pos (unitE r c (scaleD n D))
        grind
    rw [e1, e2]
    exact ⟨list_eq hl fun t ht => by rw [scaleD_get n D (by omega)]; exact scale_zero (hf _ (getD_mem' (by omega))) (hz _ (getD_mem' (by omega))), .inr hz⟩
  · rcases u1 with ⟨_, _, e⟩ | ⟨⟨x, hx, hp⟩, hup, hD, he1, he2⟩
    · exact absurd e hz
    rcases u2 with ⟨_, _, e⟩ | ⟨⟨x', hx', hp'⟩, hup', hD', he1', he2'⟩
    · exfalso
      refine hz fun y hy => ?_
      obtain ⟨t, ht, rfl⟩ := mem_getD hy
      have h1 := e ((scaleD n D).getD t 0) (getD_mem' (by omega))
      rw [(hs t ht).2.2] at h1
      rcases Rat.mul_eq_zero.1 h1 with h2 | h2
      · exact h2
      · exact absurd h2 (pw_ne _)
    have hE : unitE r c (scaleD n D) = unitE r c D + n := by
      have c1 : pw (unitE r c D + n) < pw (unitE r c (scaleD n D) + 1) := by
        obtain ⟨t, ht, rfl⟩ := mem_getD hx
        have h1 := hup' ((scaleD n D).getD t 0) (getD_mem' (by omega))
        rw [(hs t ht).2.2] at h1
        rw [pw_add (unitE r c D)]
        exact lelt (mulr hp (pw_nn n)) h1
      have c2 : pw (unitE r c (scaleD n D)) < pw (unitE r c D + n + 1) := by
        obtain ⟨t, ht, rfl⟩ := mem_getD hx'
        rw [(hs t (by omega)).2.2] at hp'
        have h1 := hup (D.getD t 0) (getD_mem' (by omega))
        rw [show unitE r c D + n + 1 = unitE r c D + 1 + n by omega, pw_add (unitE r c D + 1)]
        exact lelt hp' (mulrl h1 (pw_pos n))
      have := pw_inv c1
      have := pw_inv c2
      omega
    refine ⟨?_, .inl hE⟩
    rw [hD, hD']
    refine list_eq (by rw [scaleD_len, scaleD_len, scaleD_len]) fun t ht => ?_
    rw [scaleD_len, scaleD_len] at ht
    rw [scaleD_get (-unitE r c (scaleD n D)) (scaleD n D) (by omega), scaleD_get (-unitE r c D) D ht]
    obtain ⟨s1, s2, s3⟩ := hs t ht
    refine scale_det (n := -unitE r c (scaleD n D)) (k := -unitE r c D) s1 (hf _ (getD_mem' ht)) s2 (by omega) (by omega) ?_
    rw [s3, hE, Rat.mul_assoc, ← pw_add]
    congr 2
    omega
/-- Nothing in the divided one is greater than two. -/
theorem unit_all {r c : Int} {D : List Int} (h : MatOk r c D) (hf : ∀ x ∈ D, Fn x) : ∀ x ∈ unitD r c D, Fn x ∧ mg x ≤ pw 1 := fun x hx => by
  rcases unit_mval h hf with ⟨_, e, hz⟩ | ⟨_, hup, hD, he1, he2⟩
  · rw [e] at hx
    exact ⟨hf x hx, by rw [hz x hx]; exact pw_nn _⟩
  · rw [hD] at hx
    obtain ⟨t, ht, rfl⟩ := mem_getD hx
    rw [scaleD_len] at ht
    rw [scaleD_get _ _ ht]
    have hx := hf _ (getD_mem' ht)
    have h1 : mg (D.getD t 0) * pw (-unitE r c D) ≤ pw 1 := by
      have h2 := mulr (Rat.le_of_lt (hup _ (getD_mem' ht))) (pw_nn (-unitE r c D))
      rw [← pw_add] at h2
      rw [show unitE r c D + 1 + -unitE r c D = 1 by omega] at h2
      exact h2
    have h3 := fl_scale hx (n := -unitE r c D) (by omega) (Rat.le_trans h1 (pw_le (by decide)))
    exact ⟨h3.fn, h3.up _ (rep_pw (by decide)) (by rw [ab_mul, hx.ab, ab_of (pw_nn _)]; exact h1)⟩
end Go.Proofs.YtcikcinkjbbnhaaDoor.M
