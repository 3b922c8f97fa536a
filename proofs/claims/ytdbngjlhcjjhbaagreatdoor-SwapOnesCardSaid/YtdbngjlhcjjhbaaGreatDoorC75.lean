/- Which numbers stand on the diagonal when some have gone in front. -/
import Derived.Test.YtdbngjlhcjjhbaaGreatDoorC74
set_option linter.unusedSimpArgs false
set_option linter.unusedVariables false
set_option maxRecDepth 10000
set_option maxHeartbeats 400000
namespace Go.Proofs.YtdbngjlhcjjhbaaGreatDoor.M
open Go Go.Proofs

/-- The diagonal. -/
def dgl (n : Int) (D : List Int) : List Int := (List.range n.toNat).map fun i : Nat => atM n n n D i i
theorem dgl_len (n : Int) (D : List Int) : (dgl n D).length = n.toNat := by simp [dgl]
theorem dgl_get {n : Int} (D : List Int) {i : Nat} (hi : (i : Int) < n) : (dgl n D)[i]? = some (atM n n n D i i) := by
  unfold dgl
  rw [List.getElem?_map, List.getElem?_range (by omega)]
  rfl
theorem dgl_ones {n : Int} {D : List Int} {c : Nat} (h : Gq n D c) (hc : c ≤ 26) (hn : n ≤ 7) {a : Nat} (ha : ((a + 1 : Nat) : Int) < n) {A B : List Int} {x y : Int} (hA : A.length = a) (hd : dgl n D = A ++ y :: x :: B) :
    dgl n (onesD n D a) = A ++ x :: y :: B := by
  obtain ⟨k0, h1, h2, h3⟩ := h
  obtain ⟨_, v1, v2, _, v4⟩ := ones_val h3 ha (by omega)
  have hx : (dgl n D)[a + 1]? = some x := by rw [hd, List.getElem?_append_right (by omega)]; simp [hA]
  have hy : (dgl n D)[a]? = some y := by rw [hd, List.getElem?_append_right (by omega)]; simp [hA]
  rw [dgl_get D (by omega)] at hx hy
  have hlen : (A ++ y :: x :: B).length = n.toNat := by rw [← hd, dgl_len]
  refine List.ext_getElem? fun i => ?_
  by_cases hi : (i : Int) < n
  · rw [dgl_get _ hi]
    by_cases e1 : i = a
    · subst e1
      rw [v1, List.getElem?_append_right (by omega)]
      simpa [hA] using hx
    · by_cases e2 : i = a + 1
      · subst e2
        rw [v2, List.getElem?_append_right (by omega)]
        simpa [hA] using hy
      · rw [v4 i hi e1 e2, ← dgl_get D hi, hd]
        by_cases e3 : i < a
        · rw [List.getElem?_append_left (by omega), List.getElem?_append_left (by omega)]
        · rw [List.getElem?_append_right (by omega), List.getElem?_append_right (by omega)]
          obtain ⟨j, hj⟩ : ∃ j, i - A.length = j + 2 := ⟨i - A.length - 2, by omega⟩
          rw [hj]
          rfl
  · rw [List.getElem?_eq_none (by rw [dgl_len]; omega), List.getElem?_eq_none]
    simp only [List.length_append, List.length_cons] at hlen ⊢
    omega
theorem dgl_mv {n : Int} (hn : n ≤ 7) (f : Nat) {A : List Int} {x : Int} (hA : A.length = f) : ∀ (m : Nat) (R S : List Int) (s : List Int × List Int) (c : Nat), Gq n s.1 c → c + m ≤ 26 → ((f + m : Nat) : Int) < n → R.length = m → dgl n s.1 = A ++ R ++ x :: S → dgl n (mvS n f m s).1 = A ++ x :: R ++ S
  | 0, R, S, s, c, h, _, _, hR, hd => by
    have : R = [] := List.eq_nil_of_length_eq_zero hR
    subst this
    simpa [mvS] using hd
  | m + 1, R, S, s, c, h, hc, hf, hR, hd => by
    obtain ⟨R', y, rfl⟩ : ∃ R' y, R = R' ++ [y] := ⟨R.dropLast, R.getLast (by intro e; simp [e] at hR), (List.dropLast_concat_getLast _).symm⟩
    rw [List.length_append, List.length_singleton] at hR
    have h1 := (h.ones (by omega) hn (a := f + m) (by omega)).1
    have h2 := dgl_ones h (by omega) hn (a := f + m) (by omega) (A := A ++ R') (B := S) (x := x) (y := y) (by rw [List.length_append]; omega) (by rw [hd]; simp)
    have := dgl_mv hn f hA m R' (y :: S) (onesD n s.1 (f + m), onesE n s.1 s.2 (f + m)) (c + 1) h1 (by omega) (by omega) (by omega) h2
    show dgl n (mvS n f m (onesD n s.1 (f + m), onesE n s.1 s.2 (f + m))).1 = _
    rw [this]
    simp
/-- Those that are wished, and the others. -/
def fstL (ws : List Bool) (l : List Int) : Nat → List Int
  | 0 => []
  | k + 1 => if ws.getD k false = true then fstL ws l k ++ [l.getD k 0] else fstL ws l k
def rstL (ws : List Bool) (l : List Int) : Nat → List Int
  | 0 => []
  | k + 1 => if ws.getD k false = true then rstL ws l k else rstL ws l k ++ [l.getD k 0]
theorem fr_len (ws : List Bool) (l : List Int) : ∀ k, (fstL ws l k).length + (rstL ws l k).length = k
  | 0 => rfl
  | k + 1 => by
    have := fr_len ws l k
    unfold fstL rstL
    split
    · rw [List.length_append, List.length_singleton]; omega
    · rw [List.length_append, List.length_singleton]; omega
theorem dgl_sl {n : Int} (hn : n ≤ 7) {ws : List Bool} {D E : List Int} (h : Gq n D 0) (hE : MatOk n n E) : ∀ k : Nat, (k : Int) ≤ n → dgl n (slS n ws D E k).1.1 = fstL ws (dgl n D) k ++ rstL ws (dgl n D) k ++ (dgl n D).drop k ∧ (slS n ws D E k).2 = (fstL ws (dgl n D) k).length
  | 0, _ => by simp [slS, fstL, rstL]
  | k + 1, hk => by
    obtain ⟨i1, i2⟩ := dgl_sl hn (ws := ws) h hE k (by omega)
    obtain ⟨⟨g1, g2⟩, g3⟩ := sl_gd hn (ws := ws) h hE k (by omega)
    have ht : trs k + k ≤ 21 := trs_le (i := k + 1) (by omega)
    have hl := fr_len ws (dgl n D) k
    have hdk : (dgl n D).drop k = (dgl n D).getD k 0 :: (dgl n D).drop (k + 1) := by
      have hkl : k < (dgl n D).length := by rw [dgl_len]; omega
      rw [List.drop_eq_getElem_cons hkl, List.getD_eq_getElem?_getD, List.getElem?_eq_getElem hkl]
      rfl
    unfold slS fstL rstL
    split
    · refine ⟨?_, by rw [List.length_append, List.length_singleton, ← i2]⟩
      rw [hdk] at i1
      rw [i2]
      have := dgl_mv hn (fstL ws (dgl n D) k).length (x := (dgl n D).getD k 0) rfl (k - (fstL ws (dgl n D) k).length) (rstL ws (dgl n D) k) ((dgl n D).drop (k + 1)) _ (trs k) g1 (by omega) (by omega) (by omega) i1
      show dgl n (mvS n _ _ _).1 = _
      rw [this]
      simp
    · refine ⟨?_, i2⟩
      rw [i1, hdk]
      simp
end Go.Proofs.YtdbngjlhcjjhbaaGreatDoor.M
