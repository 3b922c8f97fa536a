/- The law HessShapes, in the small machine. -/
import Derived.Test.YtamoljalficfgaaC49
import Derived.Test.YtamoljalficfgaaC41
import Derived.Test.YtamoljalficfgaaC29
set_option linter.unusedSimpArgs false
set_option linter.unusedVariables false
set_option pp.deepTerms false
set_option pp.maxSteps 1500
set_option maxRecDepth 10000
set_option maxHeartbeats 8000000
namespace Go.Proofs.Ytamoljalficfgaa.M
open Go Go.Proofs

/-- The places seen so far, up to one: all that lie beneath what stands beneath the diagonal are zeros. -/
def Seen (r c : Int) (E : List Int) (i k : Nat) : Prop := ∀ a b : Nat, (a < i ∨ (a = i ∧ b < k)) → (a : Int) < r → (b : Int) < c → b + 2 ≤ a → kindM (atM r c c E a b) = 1
theorem seen_set {r c : Int} {E : List Int} (h : MatOk r c E) {i k : Nat} (hi : (i : Int) < r) (hk : (k : Int) < c) (b : Int) : Seen r c (setM r c c E i k b) i k ↔ Seen r c E i k := by
  constructor
  · intro hs x y hxy hx hy hz
    have := hs x y hxy hx hy hz
    rwa [at_set_ne h hi hk hx hy (by omega)] at this
  · intro hs x y hxy hx hy hz
    rw [at_set_ne h hi hk hx hy (by omega)]
    exact hs x y hxy hx hy hz
theorem seen_succ {r c : Int} {E : List Int} {i k : Nat} (hi : (i : Int) < r) (hk : (k : Int) < c) : Seen r c E i (k + 1) ↔ Seen r c E i k ∧ (k + 2 ≤ i → kindM (atM r c c E i k) = 1) := by
  constructor
  · intro hs
    exact ⟨fun x y hxy hx hy hz => hs x y (by omega) hx hy hz, fun hz => hs i k (.inr ⟨rfl, by omega⟩) hi hk hz⟩
  · rintro ⟨h1, h2⟩ x y hxy hx hy hz
    by_cases e : x = i ∧ y = k
    · obtain ⟨rfl, rfl⟩ := e
      exact h2 hz
    · exact h1 x y (by omega) hx hy hz
theorem seen_row {r c : Int} {E : List Int} {i k : Nat} (hk : ¬ (k : Int) < c) : Seen r c E (i + 1) 0 ↔ Seen r c E i k := by
  constructor
  · intro hs x y hxy hx hy hz
    exact hs x y (by omega) hx hy hz
  · intro hs x y hxy hx hy hz
    exact hs x y (by omega) hx hy hz
theorem seen_1 {r c : Int} {E E' : List Int} {i k : Nat} (hi : (i : Int) < r) (hk : (k : Int) < c) {w : Bool} (hw : Hid2 (w = true ↔ Seen r c E i k)) (hE : Seen r c E' i k ↔ Seen r c E i k) (h1 : w = true) (h2 : (i : Int) - 1 ≤ k) : Hid2 (true = true ↔ Seen r c E' i (k + 1)) := by
  have hw : w = true ↔ Seen r c E i k := hw
  unfold Hid2
  rw [seen_succ hi hk, hE, ← hw]
  exact ⟨fun _ => ⟨h1, fun h => by omega⟩, fun _ => rfl⟩
theorem seen_2 {r c : Int} {E E' : List Int} {i k : Nat} (hi : (i : Int) < r) (hk : (k : Int) < c) {w : Bool} (hw : Hid2 (w = true ↔ Seen r c E i k)) (hE : Seen r c E' i k ↔ Seen r c E i k) (h1 : ¬ w = true) : Hid2 (false = true ↔ Seen r c E' i (k + 1)) := by
  have hw : w = true ↔ Seen r c E i k := hw
  unfold Hid2
  rw [seen_succ hi hk, hE, ← hw]
  exact ⟨fun h => (by cases h), fun h => absurd h.1 h1⟩
theorem seen_3 {r c : Int} {E E' : List Int} {i k : Nat} (hi : (i : Int) < r) (hk : (k : Int) < c) {w : Bool} (hI : InD E') (hw : Hid2 (w = true ↔ Seen r c E i k)) (hE : Seen r c E' i k ↔ Seen r c E i k) (h1 : w = true) (h2 : ¬ (i : Int) - 1 ≤ k) : Hid2 (decide (absM (atM r c c E' i k) = 0) = true ↔ Seen r c E' i (k + 1)) := by
  have hw : w = true ↔ Seen r c E i k := hw
  unfold Hid2
  rw [seen_succ hi hk, hE, ← hw, decide_eq_true_eq, ← kind_zero (atM_in hI _ _ _ _ _)]
  exact ⟨fun h => ⟨h1, fun _ => h⟩, fun h => h.2 (by omega)⟩
theorem hshapes (n0 m0 : Int) {v : MV} {xs : List Int} {H : MH} (hv : Sl H v xs) (hI : InD xs) (holes : Int) :
    Spec Try.prog 4 [i64 n0, i64 m0, v, u64 holes] H fun u H' => u = bl true ∧ H' = H := by
  have hlen22 := len22 hv
  have h7 := and7 n0
  have h8 := and7 m0
  refine Spec.scalar (enterS Try.func4 [.tmp 8] ?_)
  repeat' first | (with_reducible (show W _ _ _ _ _); with_reducible refine go2 ?_) | (with_reducible (show W _ _ _ _ _); with_reducible refine sg2 ?_ ?_ <;> intro _) | (with_reducible (show W _ _ _ _ _); with_reducible refine sc2 ?_ ?_ <;> intro _) | (with_reducible (show CallK _ _ _ _ _ _ _ _ _ _ _); with_reducible refine ce2 (head17_spec _) ?_) | (with_reducible (show W _ _ (.code (.region 16 _ true) :: _) _ _); with_reducible refine W_draw [(0, []), (1, []), (2, []), (3, []), (4, []), (5, []), (6, []), (7, []), (8, []), (9, []), (10, []), (11, []), (12, []), (13, []), (14, [])] [] (by kernel_rfl) ?_)
  · trivial
  rename_i hl100
  generalize bits .and .i64 n0 7 = r at h7
  generalize bits .and .i64 m0 7 = c at h8
  obtain ⟨r, rfl⟩ := Int.eq_ofNat_of_zero_le h7.1
  obtain ⟨c, rfl⟩ := Int.eq_ofNat_of_zero_le h8.1
  have hr7 : r ≤ 7 := by omega
  have hc7 : c ≤ 7 := by omega
  obtain ⟨N, hN⟩ : ∃ N, r * c = N := ⟨_, rfl⟩
  have hr40 : 0 ≤ (r : Int) ∧ (r : Int) ≤ 4096 := by omega
  have hc40 : 0 ≤ (c : Int) ∧ (c : Int) ≤ 4096 := by omega
  have hNN : ((r : Int) * c).toNat = N := by rw [← hN]; exact_mod_cast Int.toNat_natCast (r * c)
  have hnew : ∀ H, Spec Try.prog 16 [i64 (r : Int), i64 (c : Int)] H fun v H' => v = mx r c c H.length N N ∧ H' = H ++ [some ⟨(List.replicate N 0).map u64, true⟩] := fun H => by have := new_spec _ _ hr40 hc40 H; rw [hNN, map_rep] at this; exact this
  have hzero : MatOk r c (List.replicate N 0) := by have := MatOk.zero hr40 hc40; rw [hNN] at this; exact this
  (with_reducible (show CallK _ _ _ _ _ _ _ _ _ _ _)); with_reducible refine cm2 (hnew _) ?_
  repeat' first | (with_reducible (show W _ _ _ _ _); with_reducible refine go2 ?_) | (with_reducible (show W _ _ _ _ _); with_reducible refine sg2 ?_ ?_ <;> intro _) | (with_reducible (show W _ _ _ _ _); with_reducible refine sc2 ?_ ?_ <;> intro _) | (with_reducible (show W _ _ (.code (.region 16 _ true) :: _) _ _); with_reducible refine W_draw [(0, []), (1, []), (2, []), (3, []), (4, []), (5, []), (6, []), (7, []), (8, []), (9, []), (10, []), (11, []), (12, []), (13, []), (14, [])] [] (by kernel_rfl) ?_)
  have hia2 : ∀ k : Nat, k < xs.length → iaV (.slice 1 8 (some [.int .u64 0]) true) v (.lit (.int .i64 k)) = some (ixq v k) := fun k h => hv.ia h _ _ _ _
  have hld2 : ∀ (L : MH) (k : Nat), k < xs.length → loadV Try.prog 23 (ixq v k) (H ++ L) = some (u64 (xs.getD k 0)) := fun L k h => (hv.app L).ld (by rw [ty_23]) (by rw [ty_23]) h
  refine W_for (fun j ρ H' => ∃ (i : Nat) (E : List Int) (w : Bool), i + j = r ∧ MatOk r c E ∧ InD E ∧ Hid2 (w = true ↔ Seen r c E i 0) ∧ ρ 0 = i64 (r : Int) ∧ ρ 1 = i64 (c : Int) ∧ ρ 2 = v ∧ ρ 3 = u64 holes ∧ ρ 9 = .ptr (H.length + 1) 0 ∧ ρ 10 = bl w ∧ ρ 11 = i64 i ∧
    H' = H ++ [some ⟨E.map u64, true⟩, some ⟨[i64 r, i64 c, i64 c, .slice H.length 0 N N 1], true⟩]) r ?_ ?_
  · refine ⟨0, List.replicate N 0, true, by omega, hzero, InD.rep N, ?_, ?_⟩
    · exact ⟨fun _ a b h => by omega, fun _ => rfl⟩
    · simp [put, args0]
  rintro j ρ H' ⟨i, E, w, hi, hE, hEI, hw, h0, h1, h2, h3, h9, h10, h11, rfl⟩
  repeat' first | (with_reducible (show W _ _ _ _ _); with_reducible refine go2 ?_) | (with_reducible (show W _ _ _ _ _); with_reducible refine sg2 ?_ ?_ <;> intro _) | (with_reducible (show W _ _ _ _ _); with_reducible refine sc2 ?_ ?_ <;> intro _) | (with_reducible (show W _ _ (.code (.region 16 _ true) :: _) _ _); with_reducible refine W_draw [(0, []), (1, []), (2, []), (3, []), (4, []), (5, []), (6, []), (7, []), (8, []), (9, []), (10, []), (11, []), (12, []), (13, []), (14, [])] [] (by kernel_rfl) ?_)
  · rename_i hlt
    refine W_for (fun j' ρ H' => ∃ (k : Nat) (E : List Int) (w : Bool), k + j' = c ∧ MatOk r c E ∧ InD E ∧ Hid2 (w = true ↔ Seen r c E i k) ∧ ρ 0 = i64 (r : Int) ∧ ρ 1 = i64 (c : Int) ∧ ρ 2 = v ∧ ρ 3 = u64 holes ∧ ρ 9 = .ptr (H.length + 1) 0 ∧ ρ 10 = bl w ∧ ρ 11 = i64 i ∧ ρ 12 = i64 k ∧
      H' = H ++ [some ⟨E.map u64, true⟩, some ⟨[i64 r, i64 c, i64 c, .slice H.length 0 N N 1], true⟩]) c ?_ ?_
    · refine ⟨0, E, w, by omega, hE, hEI, hw, ?_⟩
      simp [put, *]
    clear h0 h1 h2 h3 h9 h10 h11 hE hEI hw E w
    rintro j' ρ' H' ⟨k, E, w, hk, hE, hEI, hw, h0, h1, h2, h3, h9, h10, h11, h12, rfl⟩
    have hEl : E.length = N := hE.len.trans hNN
    have hshr : ∀ x, ¬ IntKind.u64.wrap x < 0 := fun x => by have := (wrap_inU x).1; omega
    have em : IntKind.i64.wrap ((i : Int) * c) = ((i * c : Nat) : Int) := by
      have : i * c ≤ 7 * 7 := Nat.mul_le_mul (by omega) hc7
      rw [← Int.natCast_mul, wrap_i64 (by omega)]
    have ea : (k : Int) < c → IntKind.i64.wrap (((i * c : Nat) : Int) + k) = ((i * c + k : Nat) : Int) := fun h => by
      have : i * c ≤ 7 * 7 := Nat.mul_le_mul (by omega) hc7
      rw [wrap_i64 (by omega)]; omega
    have f1 : 0 < (xs.length : Int) → ((xs.length : Int) = 0) = False := fun h => eq_false (by omega)
    have f2 : ((i * c + k : Nat) : Int).tmod xs.length = (((i * c + k) % xs.length : Nat) : Int) := tmod_nat _ _
    have f3 : 0 < (xs.length : Int) → iaV (.slice 1 8 (some [.int .u64 0]) true) v (.lit (.int .i64 (((i * c + k) % xs.length : Nat) : Int))) = some (ixq v ((i * c + k) % xs.length)) := fun h => hia2 _ (Nat.mod_lt _ (by omega))
    have f4 : ∀ L, 0 < (xs.length : Int) → loadV Try.prog 23 (ixq v ((i * c + k) % xs.length)) (H ++ L) = some (u64 (xs.getD ((i * c + k) % xs.length) 0)) := fun L h => hld2 _ _ (Nat.mod_lt _ (by omega))
    have ek : (k : Int) < c → IntKind.i64.wrap ((k : Int) + 1) = ((k + 1 : Nat) : Int) := fun h => by rw [wrap_i64 (by omega)]; omega
    have ei : IntKind.i64.wrap ((i : Int) + 1) = ((i + 1 : Nat) : Int) := by rw [wrap_i64 (by omega)]; omega
    have em1 : IntKind.i64.wrap ((i : Int) - 1) = (i : Int) - 1 := wrap_i64 (by omega)
    have hd : ∀ L : MH, hget (H ++ some ⟨E.map u64, true⟩ :: L) H.length = some ⟨E.map u64, true⟩ := fun L => hget_new'
    repeat' first | (with_reducible (show W _ _ _ _ _); with_reducible refine go2 ?_) | (with_reducible (show W _ _ _ _ _); with_reducible refine sg2 ?_ ?_ <;> intro _) | (with_reducible (show W _ _ _ _ _); with_reducible refine sc2 ?_ ?_ <;> intro _) | (with_reducible (show W _ _ (.code (.region 16 _ true) :: _) _ _); with_reducible refine W_draw [(0, []), (1, []), (2, []), (3, []), (4, []), (5, []), (6, []), (7, []), (8, []), (9, []), (10, []), (11, []), (12, []), (13, []), (14, [])] [] (by kernel_rfl) ?_) | ((with_reducible (show CallK _ _ _ _ _ _ _ _ _ _ _); with_reducible refine cm2 (set_ok hE _ _ _ (hd _) hEl) ?_))
    all_goals try have hkc : (k : Int) < c := by assumption
    all_goals try have hE2 := hE.set i k (xs.getD ((i * c + k) % xs.length) 0)
    all_goals try have hEI2 : InD (setM r c c E i k (xs.getD ((i * c + k) % xs.length) 0)) := hEI.setm _ _ _ _ _ (getD_in hI _)
    all_goals try have hEl2 := hE2.len.trans hNN
    all_goals try have hs2 : Hid2 (Seen r c (setM r c c E i k (xs.getD ((i * c + k) % xs.length) 0)) i k ↔ Seen r c E i k) := seen_set hE hlt hkc _
    all_goals try (repeat' first | (with_reducible (show W _ _ _ _ _); with_reducible refine go2 ?_) | (with_reducible (show W _ _ _ _ _); with_reducible refine sg2 ?_ ?_ <;> intro _) | (with_reducible (show W _ _ _ _ _); with_reducible refine sc2 ?_ ?_ <;> intro _) | (with_reducible (show CallK _ _ _ _ _ _ _ _ _ _ _); with_reducible refine ce2 (at_ok hE _ _ (hd _) hEl) ?_) | (with_reducible (show CallK _ _ _ _ _ _ _ _ _ _ _); with_reducible refine ce2 (at_ok hE2 _ _ hget_new' hEl2) ?_) | (with_reducible (show CallK _ _ _ _ _ _ _ _ _ _ _); with_reducible refine ce2 (abs_spec _ _) ?_) | (with_reducible (show W _ _ (.code (.region 16 _ true) :: _) _ _); with_reducible refine W_draw [(0, []), (1, []), (2, []), (3, []), (4, []), (5, []), (6, []), (7, []), (8, []), (9, []), (10, []), (11, []), (12, []), (13, []), (14, [])] [] (by kernel_rfl) ?_))
    all_goals first
      | exact ⟨j' - 1, by omega, k + 1, _, _, by omega, hE2, hEI2, seen_1 hlt hkc hw hs2 (by assumption) (by assumption), rfl, rfl, rfl⟩
      | exact ⟨j' - 1, by omega, k + 1, _, _, by omega, hE, hEI, seen_1 hlt hkc hw Iff.rfl (by assumption) (by assumption), rfl, rfl, rfl⟩
      | exact ⟨j' - 1, by omega, k + 1, _, _, by omega, hE2, hEI2, seen_2 hlt hkc hw hs2 (by assumption), rfl, rfl, rfl⟩
      | exact ⟨j' - 1, by omega, k + 1, _, _, by omega, hE, hEI, seen_2 hlt hkc hw Iff.rfl (by assumption), rfl, rfl, rfl⟩
      | exact ⟨j' - 1, by omega, k + 1, _, _, by omega, hE2, hEI2, seen_3 hlt hkc hEI2 hw hs2 (by assumption) (by assumption), rfl, rfl, rfl⟩
      | exact ⟨j' - 1, by omega, k + 1, _, _, by omega, hE, hEI, seen_3 hlt hkc hEI hw Iff.rfl (by assumption) (by assumption), rfl, rfl, rfl⟩
      | skip
    rename_i hge
    exact ⟨j - 1, by omega, i + 1, E, w, by omega, hE, hEI, (by unfold Hid2; rw [seen_row hge]; exact hw), rfl, rfl, rfl⟩
  · rename_i hge
    have hEl : E.length = N := hE.len.trans hNN
    have hIs : bo (IsH r c E) = w := by
      have hw : w = true ↔ Seen r c E i 0 := hw
      apply bo_of
      rw [hw]
      exact ⟨fun hs a b h1 h2 h3 => hs a b (.inl (by omega)) h1 h2 h3, fun hs a b _ h1 h2 h3 => hs a b h1 h2 h3⟩
    clear hw
    have hd : ∀ L : MH, hget (H ++ some ⟨E.map u64, true⟩ :: L) H.length = some ⟨E.map u64, true⟩ := fun L => hget_new'
    have hm1 : (-1 : Int) < c := by omega
    by_cases hrc : r = c
    · subst hrc
      have hrr : ((r : Int) = r) = True := eq_true rfl
      by_cases hf : finD E = true
      · by_cases hR : (redM r E).1 = 0
        · repeat' first | (with_reducible (show W _ _ _ _ _); with_reducible refine go2 ?_) | (with_reducible (show W _ _ _ _ _); with_reducible refine sg2 ?_ ?_ <;> intro _) | (with_reducible (show W _ _ _ _ _); with_reducible refine sc2 ?_ ?_ <;> intro _) | (with_reducible (show CallK _ _ _ _ _ _ _ _ _ _ _); with_reducible refine ce2 (is_spec hE hEl (hd _)) ?_) | (with_reducible (show W _ _ (.code (.region 16 _ true) :: _) _ _); with_reducible refine W_draw [(0, []), (1, []), (2, []), (3, []), (4, []), (5, []), (6, []), (7, []), (8, []), (9, []), (10, []), (11, []), (12, []), (13, []), (14, [])] [] (by kernel_rfl) ?_) | ((with_reducible (show CallK _ _ _ _ _ _ _ _ _ _ _); first | (with_reducible refine cm2 (reduce_ok hE hEI (by omega) hEl (hd _) hf hR) ?_) | (with_reducible refine cm2 (reduce_str hm1 _ _ _ _) ?_)))
          all_goals trivial
        · repeat' first | (with_reducible (show W _ _ _ _ _); with_reducible refine go2 ?_) | (with_reducible (show W _ _ _ _ _); with_reducible refine sg2 ?_ ?_ <;> intro _) | (with_reducible (show W _ _ _ _ _); with_reducible refine sc2 ?_ ?_ <;> intro _) | (with_reducible (show CallK _ _ _ _ _ _ _ _ _ _ _); with_reducible refine ce2 (is_spec hE hEl (hd _)) ?_) | (with_reducible (show W _ _ (.code (.region 16 _ true) :: _) _ _); with_reducible refine W_draw [(0, []), (1, []), (2, []), (3, []), (4, []), (5, []), (6, []), (7, []), (8, []), (9, []), (10, []), (11, []), (12, []), (13, []), (14, [])] [] (by kernel_rfl) ?_) | ((with_reducible (show CallK _ _ _ _ _ _ _ _ _ _ _); first | (with_reducible refine cm2 (reduce_er hE hEI (by omega) hEl (hd _) hf hR) ?_) | (with_reducible refine cm2 (reduce_str hm1 _ _ _ _) ?_)))
          all_goals trivial
      · rw [Bool.not_eq_true] at hf
        repeat' first | (with_reducible (show W _ _ _ _ _); with_reducible refine go2 ?_) | (with_reducible (show W _ _ _ _ _); with_reducible refine sg2 ?_ ?_ <;> intro _) | (with_reducible (show W _ _ _ _ _); with_reducible refine sc2 ?_ ?_ <;> intro _) | (with_reducible (show CallK _ _ _ _ _ _ _ _ _ _ _); with_reducible refine ce2 (is_spec hE hEl (hd _)) ?_) | (with_reducible (show W _ _ (.code (.region 16 _ true) :: _) _ _); with_reducible refine W_draw [(0, []), (1, []), (2, []), (3, []), (4, []), (5, []), (6, []), (7, []), (8, []), (9, []), (10, []), (11, []), (12, []), (13, []), (14, [])] [] (by kernel_rfl) ?_) | ((with_reducible (show CallK _ _ _ _ _ _ _ _ _ _ _); first | (with_reducible refine cm2 (reduce_nf hE hEl (hd _) hf) ?_) | (with_reducible refine cm2 (reduce_str hm1 _ _ _ _) ?_)))
        all_goals trivial
    · have hrc2 : ¬ (r : Int) = c := by omega
      repeat' first | (with_reducible (show W _ _ _ _ _); with_reducible refine go2 ?_) | (with_reducible (show W _ _ _ _ _); with_reducible refine sg2 ?_ ?_ <;> intro _) | (with_reducible (show W _ _ _ _ _); with_reducible refine sc2 ?_ ?_ <;> intro _) | (with_reducible (show CallK _ _ _ _ _ _ _ _ _ _ _); with_reducible refine ce2 (is_spec hE hEl (hd _)) ?_) | (with_reducible (show W _ _ (.code (.region 16 _ true) :: _) _ _); with_reducible refine W_draw [(0, []), (1, []), (2, []), (3, []), (4, []), (5, []), (6, []), (7, []), (8, []), (9, []), (10, []), (11, []), (12, []), (13, []), (14, [])] [] (by kernel_rfl) ?_) | ((with_reducible (show CallK _ _ _ _ _ _ _ _ _ _ _); first | (with_reducible refine cm2 (reduce_shape hE hrc2 hEl _) ?_) | (with_reducible refine cm2 (reduce_str hm1 _ _ _ _) ?_)))
      all_goals trivial
end Go.Proofs.Ytamoljalficfgaa.M
