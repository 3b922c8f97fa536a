/- What is reflected twice is nearly as it was: the plain law. -/
import Derived.Test.YtcikcinkjbbnhaaDoorD14
import Derived.Test.YtcikcinkjbbnhaaDoorZ4
set_option linter.unusedSimpArgs false
set_option linter.unusedVariables false
set_option maxHeartbeats 1000000
namespace Go.Proofs.YtcikcinkjbbnhaaDoor.M
open Go Go.Proofs

theorem getD_map_range (f : Nat → Rat) {n i : Nat} (h : i < n) : ((List.range n).map f).getD i 0 = f i := by
  simp [List.getD_eq_getElem?_getD, h]
theorem dotR_eq {a b : List Rat} {f g : Nat → Rat} {n : Nat} (ha : ∀ i, i < n → a.getD i 0 = f i) (hb : ∀ i, i < n → b.getD i 0 = g i) : dotR a b n = sm (fun i => f i * g i) n :=
  sm_congr n fun i hi => by rw [ha i hi, hb i hi]
/-- A reflection done twice, in numbers. -/
theorem twice_core (v l : Nat → Rat) (t : Rat) (n : Nat) (ht : 0 ≤ t) (hN : Nb (n + 11) (t * sm (fun i => v i * v i) n) 2) (hn : n ≤ 1000) :
    let p := sm (fun i => v i * l i) n
    let l1 := fun i => l i - t * p * v i
    let p1 := sm (fun i => v i * l1 i) n
    let d := fun i => l1 i - t * p1 * v i - l i
    sm (fun i => d i * d i) n ≤ sm (fun i => l i * l i) n * ((((200 * ((n : Int) + 4)) : Int) : Rat) * pw (-53)) * ((((200 * ((n : Int) + 4)) : Int) : Rat) * pw (-53)) := by
  intro p l1 p1 d
  obtain ⟨N, hNe⟩ : ∃ N, sm (fun i => v i * v i) n = N := ⟨_, rfl⟩
  rw [hNe] at hN
  have hN0 : 0 ≤ N := by rw [← hNe]; exact sm_sq_nn _ _
  have hp1 : p1 = p - t * p * N := by
    show sm (fun i => v i * (l i - t * p * v i)) n = _
    rw [sm_congr (g := fun i => v i * l i + (-(t * p)) * (v i * v i)) n (fun i _ => by grind), sm_add, sm_mul, hNe]
    show p + -(t * p) * N = _
    grind
  have hd : sm (fun i => d i * d i) n = (t * p * (t * N - 2)) * (t * p * (t * N - 2)) * N := by
    rw [← hNe, ← sm_mul]
    refine sm_congr n fun i _ => ?_
    show (l i - t * p * v i - t * p1 * v i - l i) * (l i - t * p * v i - t * p1 * v i - l i) = _
    rw [hp1, hNe]; grind
  obtain ⟨L, hL⟩ : ∃ L, sm (fun i => l i * l i) n = L := ⟨_, rfl⟩
  have hL0 : 0 ≤ L := by rw [← hL]; exact sm_sq_nn _ _
  have hc : p * p ≤ N * L := by
    have := cauchy v l n
    rw [hNe, hL] at this; exact this
  have htN : 0 ≤ t * N := mulnn ht hN0
  have hdist := hN.dist htN (by decide) (by omega)
  obtain ⟨e, he⟩ : ∃ e, t * N - 2 = e := ⟨_, rfl⟩
  rw [he] at hdist
  obtain ⟨k, hk⟩ : ∃ k, (((n + 11 : Nat) : Int) : Rat) * u53 = k := ⟨_, rfl⟩
  rw [hk] at hdist
  have hk0 : 0 ≤ k := by rw [← hk]; exact mulnn (nat_nn _) (Rat.le_of_lt u53_pos)
  have hk1 : k ≤ 1 / 1000 := by
    rw [← hk]
    have h1 : (((n + 11 : Nat) : Int) : Rat) ≤ (2000 : Rat) := ile (b := 2000) (by omega)
    have := mul2 h1 u53_small (nat_nn _) (by grind)
    exact Rat.le_trans this (by grind)
  have he2 : e * e ≤ (4 * k) * (4 * k) := by
    rw [← ab_sq]
    have h1 : ab e ≤ 4 * k := by grind
    exact mul2 h1 h1 (ab_nn e) (by grind)
  have htN3 : t * N ≤ 3 := by
    have := (ab_le.1 hdist).1
    grind
  have hunits : 12 * k ≤ (((200 * ((n : Int) + 4)) : Int) : Rat) * pw (-53) := by
    rw [← hk]
    have h1 : 12 * (((n + 11 : Nat) : Int) : Rat) ≤ (((200 * ((n : Int) + 4)) : Int) : Rat) := by
      have := ile (a := 12 * ((n + 11 : Nat) : Int)) (b := 200 * ((n : Int) + 4)) (by omega)
      rwa [Rat.intCast_mul] at this
    have := mulr h1 (Rat.le_of_lt u53_pos)
    rw [Rat.mul_assoc] at this
    exact this
  obtain ⟨U, hU⟩ : ∃ U, (((200 * ((n : Int) + 4)) : Int) : Rat) * pw (-53) = U := ⟨_, rfl⟩
  rw [hU] at hunits ⊢
  rw [hd, he, hL]
  -- (t p e)^2 N = t^2 p^2 e^2 N <= t^2 N L e^2 N = (tN)^2 e^2 L <= 9 16 k^2 L
  have h1 : t * t * N * (p * p) ≤ t * t * N * (N * L) := mull hc (mulnn (sqnn t) hN0)
  have h2 : t * N * (t * N) ≤ 3 * 3 := mul2 htN3 htN3 htN (by decide)
  have h3 : e * e * (t * t * N * (p * p)) ≤ e * e * (t * t * N * (N * L)) := mull h1 (sqnn e)
  have h4 : e * e * L * (t * N * (t * N)) ≤ e * e * L * (3 * 3) := mull h2 (mulnn (sqnn e) hL0)
  have h5 : L * (e * e) ≤ L * (4 * k * (4 * k)) := mull he2 hL0
  have h6 : 12 * k * (12 * k) ≤ U * U := mul2 hunits hunits (by grind) (by grind)
  have h7 : L * (12 * k * (12 * k)) ≤ L * (U * U) := mull h6 hL0
  grind
theorem twice_law {n : Nat} {V : List Int} {tau : Int} (hlen : V.length = n) (hn : n ≤ 1000) (l : List Rat) (hl : l.length = n) (h : Gn n V tau ∨ vx tau = 0) :
    nearR (turnR V tau (turnR V tau l n) n) l (200 * ((n : Int) + 4)) (dotR l l n) := by
  obtain ⟨v, hv⟩ : ∃ v : Nat → Rat, (fun i => vx (V.getD i 0)) = v := ⟨_, rfl⟩
  obtain ⟨t, ht⟩ : ∃ t, vx tau = t := ⟨_, rfl⟩
  have hvm : ∀ i, i < n → (V.map vx).getD i 0 = v i := fun i hi => by rw [map_vx_get (by omega), ← hv]
  have ht1 : ∀ (q : List Rat) (f : Nat → Rat), (∀ i, i < n → q.getD i 0 = f i) → ∀ i, i < n → (turnR V tau q n).getD i 0 = f i - t * sm (fun i => v i * f i) n * v i := fun q f hq i hi => by
    unfold turnR
    rw [getD_map_range _ hi, hq i hi, ht, hlen, dotR_eq hvm hq, ← hv]
  have h1 := ht1 l (fun i => l.getD i 0) (fun i _ => rfl)
  have h2 := ht1 (turnR V tau l n) _ h1
  have hd : ∀ i, i < n → (difR (turnR V tau (turnR V tau l n) n) l n).getD i 0 = _ := fun i hi => by
    unfold difR
    rw [getD_map_range _ hi, h2 i hi]
  unfold nearR
  rw [turnR_len, dotR_eq hd hd, dotR_eq (f := fun i => l.getD i 0) (g := fun i => l.getD i 0) (fun i _ => rfl) (fun i _ => rfl)]
  rcases h with h | h
  · have hvv : ∀ i, i < n → v i = val (V.getD i 0) := fun i hi => by rw [← hv]; exact vx_fn (h.fv i hi)
    have htt : t = val tau := by rw [← ht]; exact vx_fn h.ft
    have hN : Nb (n + 11) (t * sm (fun i => v i * v i) n) 2 := by
      rw [htt, sm_congr (g := fun i => val (V.getD i 0) * val (V.getD i 0)) n (fun i hi => by rw [hvv i hi])]
      exact h.near
    exact twice_core v (fun i => l.getD i 0) t n (by rw [htt]; exact Rat.le_of_lt h.pos) hN hn
  · have ht0 : t = 0 := by rw [← ht]; exact h
    subst ht0
    rw [sm_congr (g := fun _ => 0) n (fun i _ => by grind), sm_zero]
    refine mulnn (mulnn (sm_sq_nn _ _) ?_) ?_
    · exact mulnn (ile (a := 0) (by omega)) (pw_nn _)
    · exact mulnn (ile (a := 0) (by omega)) (pw_nn _)
end Go.Proofs.YtcikcinkjbbnhaaDoor.M
