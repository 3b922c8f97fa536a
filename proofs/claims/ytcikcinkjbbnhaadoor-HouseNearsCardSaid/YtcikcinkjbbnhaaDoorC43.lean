/- Lists of anything that grow. -/
import Derived.Test.YtcikcinkjbbnhaaDoorC11
import Derived.Test.YtcikcinkjbbnhaaDoorD1
import Derived.Test.YtcikcinkjbbnhaaDoorC37
set_option linter.unusedSimpArgs false
set_option linter.unusedVariables false
set_option maxRecDepth 10000
set_option maxHeartbeats 8000000
namespace Go.Proofs.YtcikcinkjbbnhaaDoor.M
open Go Go.Proofs

/-- What was there is as it was. -/
def Olds (H C : MH) : Prop := H.length ≤ C.length ∧ ∀ q, q < H.length → C[q]? = H[q]?
theorem Olds.refl (H : MH) : Olds H H := ⟨Nat.le_refl _, fun _ _ => rfl⟩
theorem Olds.app {H C : MH} (h : Olds H C) (L : MH) : Olds H (C ++ L) := ⟨by rw [List.length_append]; have := h.1; omega, fun q hq => by have := h.1; rw [List.getElem?_append_left (by omega)]; exact h.2 q hq⟩
theorem Olds.setq {H C : MH} (h : Olds H C) {q : Nat} (x : Option MO) (hq : H.length ≤ q) : Olds H (C.set q x) := ⟨by rw [List.length_set]; exact h.1, fun r hr => by rw [List.getElem?_set_ne (by omega)]; exact h.2 r hr⟩
theorem Olds.get {H C : MH} (h : Olds H C) {p : Nat} {o : MO} (hp : hget H p = some o) : hget C p = some o := by
  have := lt_of_hget hp
  unfold hget at hp ⊢
  rw [h.2 p this]; exact hp
theorem Olds.sl {H C : MH} (h : Olds H C) {v : MV} {xs : List Int} (hv : Sl H v xs) : Sl C v xs := by
  rcases hv with ⟨h1, a, h2⟩ | ⟨p, o, c, ob, h1, h2, h3⟩
  · exact .inl ⟨h1, a, h2⟩
  · exact .inr ⟨p, o, c, ob, h1, h.get h2, h3⟩
theorem Olds.less {H L C : MH} (h : Olds (H ++ L) C) : Olds H C := ⟨by have := h.1; rw [List.length_append] at this; omega, fun q hq => by rw [h.2 q (by rw [List.length_append]; omega), List.getElem?_append_left hq]⟩

/-- A list that grows: its cells, how many elements of so many cells each. -/
def Ls (H C : MH) (z : Nat) (cs : List MV) (m : Nat) (v : MV) : Prop := cs.length = m * z ∧ ((m = 0 ∧ v = .lit (.slice none 0 0)) ∨
  ∃ px c, v = .slice px 0 m c z ∧ m ≤ c ∧ hget C px = some ⟨cs, true⟩ ∧ H.length ≤ px)
theorem Ls.nil (H C : MH) (z : Nat) : Ls H C z [] 0 (.lit (.slice none 0 0)) := ⟨by simp, .inl ⟨rfl, rfl⟩⟩
theorem Ls.app {H C : MH} {z : Nat} {cs : List MV} {m : Nat} {v : MV} (h : Ls H C z cs m v) (L : MH) : Ls H (C ++ L) z cs m v := by
  refine ⟨h.1, ?_⟩
  rcases h.2 with h | ⟨px, c, h1, h2, h3, h4⟩
  · exact .inl h
  · exact .inr ⟨px, c, h1, h2, (hget_old (lt_of_hget h3)).trans h3, h4⟩
theorem Ls.len {H C : MH} {z : Nat} {cs : List MV} {m : Nat} {v : MV} (h : Ls H C z cs m v) {P : Program} {t : TypeId} {a b c d} (hk : (ty P t).k = .slice a b c d) : lenV P t v = some (i64 (m : Int)) := by
  rcases h.2 with ⟨rfl, rfl⟩ | ⟨px, c, rfl, _⟩ <;> simp [lenV, hk]
theorem app_ls {P : Program} {Q : MQ} {H C : MH} (hC : Olds H C) {z : Nat} {cs : List MV} {m : Nat} {v : MV} (hx : Ls H C z cs m v) (hm : m ≤ 10000000) {t : TypeId} {eb : Nat} {zs : List Value} {b : Bool} (ht : (ty P t).k = .slice z eb (some zs) b)
    (hz : 0 < z ∧ 0 < eb ∧ zs.length = z ∧ eb ≤ 2 ^ 10) {new : List MV} {k0 : Nat} (hk0 : 0 < k0 ∧ k0 ≤ 1000) (hnew : new.length = k0 * z) (hone : new.all one = true) {c1 n0 n1 : Nat} {C2 : MH} (hn0 : n0 = C.length) (hn1 : n1 = C.length + 1) (hC2 : C2 = C ++ [some ⟨new, true⟩])
    {d L l F k ρ} (h : ∀ v' C', Olds H C' → Ls H C' z (cs ++ new) (m + k0) v' → held P L C' F ∧ W P Q (.run l F :: k) (put ρ d v') C') :
    AppK P Q (appV P #[t, t] v (.slice n0 0 k0 c1 z) C2) n1 d L l F k ρ := by
  subst hn0 hn1 hC2
  have hnw : hget (C ++ [some ⟨new, true⟩]) C.length = some ⟨new, true⟩ := hget_append_new
  have htl : tailV z (.slice C.length 0 k0 c1 z) (C ++ [some ⟨new, true⟩]) = some (new, k0) := by
    simp only [tailV, if_true, cellsAt_eq, hnw]
    simp [hnew, List.take_of_length_le]
  have hCl := hC.1
  have hat : ∀ (A : MH) (o : MO) (k : Nat), k = A.length → hget (A ++ [some o]) k = some o := fun A o k hk => by subst hk; exact hget_append_new
  obtain ⟨hcl, hx⟩ := hx
  have hcl2 : (cs ++ new).length = (m + k0) * z := by rw [List.length_append, hcl, hnew, Nat.add_mul]
  rcases hx with ⟨rfl, rfl⟩ | ⟨px, c, rfl, hmc, hpx, h1⟩
  · have hcs : cs = [] := List.eq_nil_of_length_eq_zero (by rw [hcl]; simp)
    subst hcs
    have : appV P #[t, t] (.lit (.slice none 0 0)) (.slice C.length 0 k0 c1 z) (C ++ [some ⟨new, true⟩]) = some (some (new, k0, z), C ++ [some ⟨new, true⟩] ++ [some ⟨new, true⟩]) := by
      refine appV_of ?_
      unfold appV0
      simp only [List.getElem?_toArray, List.getElem?_cons_zero, List.getElem?_cons_succ, ht, htl]
      simp [hz, hone, show k0 ≠ 0 by omega, show k0 ≤ 68719476736 by omega]
    rw [this]
    simp only [AppK]
    intro c hc
    refine h _ _ ((hC.app _).app _) ⟨hcl2, .inr ⟨_, c, by rw [Nat.zero_add], by omega, ?_, ?_⟩⟩
    · exact hat _ _ _ (by simp)
    · omega
  · have hpo : hget (C ++ [some ⟨new, true⟩]) px = some ⟨cs, true⟩ := (hget_old (lt_of_hget hpx)).trans hpx
    have : appV P #[t, t] (.slice px 0 m c z) (.slice C.length 0 k0 c1 z) (C ++ [some ⟨new, true⟩]) = some (some (cs ++ new, m + k0, z), (C ++ [some (MO.mk new true)]).set px none ++ [some ⟨cs ++ new, true⟩]) := by
      refine appV_of ?_
      unfold appV0
      simp only [List.getElem?_toArray, List.getElem?_cons_zero, List.getElem?_cons_succ, ht, htl]
      simp [hz, hone, hpo, hcl, show m + k0 ≤ 68719476736 by omega]
    rw [this]
    simp only [AppK]
    intro c hc
    refine h _ _ (((hC.app _).setq _ h1).app _) ⟨hcl2, .inr ⟨_, c, rfl, hc, ?_, ?_⟩⟩
    · exact hat _ _ _ (by simp)
    · omega
end Go.Proofs.YtcikcinkjbbnhaaDoor.M
