/- gimballaw19.Quasi: is a matrix quasi-triangular; Upper. -/
import Derived.Test.YtamoljalficfgaaC43
set_option linter.unusedSimpArgs false
set_option linter.unusedVariables false
set_option pp.deepTerms false
set_option pp.maxSteps 1500
set_option maxRecDepth 10000
set_option maxHeartbeats 8000000
namespace Go.Proofs.Ytamoljalficfgaa.M
open Go Go.Proofs

def Qb (n : Int) (D : List Int) : Prop := ∀ k : Nat, ((k + 1 : Nat) : Int) < n → ¬ kindM (atM n n n D ((k + 1 : Nat) : Int) k) = 1 → pbB n D k = true
theorem blk_some {n : Int} {D : List Int} : ∀ {f i : Nat}, n ≤ (i : Int) + f → ((blk n D f i).isSome = true ↔ ∀ k : Nat, i ≤ k → ((k + 1 : Nat) : Int) < n → ¬ kindM (atM n n n D ((k + 1 : Nat) : Int) k) = 1 → pbB n D k = true)
  | 0, i, h => by
    simp only [blk, Option.isSome_some, true_iff]
    intro k hk hn; omega
  | f + 1, i, h => by
    by_cases hi : (i : Int) < n
    · cases hs : stB n D i with
      | true =>
        rw [blk_st hi hs, Option.isSome_map, blk_some (i := i + 1) (by omega)]
        constructor
        · intro hh k hk hn hz
          by_cases e : k = i
          · subst e
            unfold stB at hs
            simp only [Bool.or_eq_true, decide_eq_true_eq] at hs
            rcases hs with hs | hs
            · omega
            · exact absurd hs hz
          · exact hh k (by omega) hn hz
        · intro hh k hk hn hz
          exact hh k (by omega) hn hz
      | false =>
        have hs2 := hs
        unfold stB at hs2
        simp only [Bool.or_eq_false_iff, decide_eq_false_iff_not] at hs2
        cases hp : pbB n D i with
        | true =>
          rw [blk_pb hi hs hp, Option.isSome_map, blk_some (i := i + 2) (by omega)]
          constructor
          · intro hh k hk hn hz
            by_cases e : k = i
            · subst e; exact hp
            · by_cases e2 : k = i + 1
              · subst e2
                unfold pbB at hp
                simp only [Bool.and_eq_true, Bool.not_eq_true', Bool.and_eq_false_iff, decide_eq_false_iff_not] at hp
                rcases hp.2 with h1 | h1
                · exact absurd hn h1
                · simp only [Bool.not_eq_false', decide_eq_true_eq] at h1
                  exact absurd h1 hz
              · exact hh k (by omega) hn hz
          · intro hh k hk hn hz
            exact hh k (by omega) hn hz
        | false =>
          rw [blk_no hi hs hp]
          simp only [Option.isSome_none, Bool.false_eq_true, false_iff]
          intro hh
          have := hh i (Nat.le_refl _) (by omega) hs2.2
          rw [hp] at this; cases this
    · rw [blk_end hi]
      simp only [Option.isSome_some, true_iff]
      intro k hk hn; omega
theorem blocks_some {n : Int} {D : List Int} (hn : 0 ≤ n) : (blocksM n D).isSome = bo (IsH n n D ∧ Qb n D) := by
  symm
  apply bo_of
  unfold blocksM
  by_cases hI : IsH n n D
  · rw [if_pos (bo_t hI), blk_some (by omega)]
    exact ⟨fun hh => ⟨hI, fun k => hh k (Nat.zero_le _)⟩, fun hh k _ => hh.2 k⟩
  · rw [if_neg (by rw [bo_f hI]; decide)]
    simp [hI]

theorem pb_iff {n : Int} {D : List Int} {i : Nat} (hz : Hid2 (∀ i k : Int, kindM (atM n n n D i k) = 1 ↔ absM (atM n n n D i k) = 0)) (hc : ¬ absM (atM n n n D ((i + 1 : Nat) : Int) i) = 0) : pbB n D i = true ↔
    atM n n n D ((i + 1 : Nat) : Int) ((i + 1 : Nat) : Int) = atM n n n D i i ∧ ¬ absM (atM n n n D i ((i + 1 : Nat) : Int)) = 0 ∧ ¬ negM (atM n n n D i ((i + 1 : Nat) : Int)) = negM (atM n n n D ((i + 1 : Nat) : Int) i) ∧ (((i + 2 : Nat) : Int) < n → absM (atM n n n D ((i + 2 : Nat) : Int) ((i + 1 : Nat) : Int)) = 0) := by
  unfold pbB plainM
  have hz : ∀ i k : Int, kindM (atM n n n D i k) = 1 ↔ absM (atM n n n D i k) = 0 := hz
  simp only [hz, hc, decide_false, Bool.false_or, Bool.and_eq_true, decide_eq_true_eq, bne_iff_ne, ne_eq, Bool.not_eq_true', Bool.and_eq_false_iff, decide_eq_false_iff_not, Bool.not_eq_false']
  constructor
  · rintro ⟨⟨⟨h1, h2⟩, h3⟩, h4⟩
    exact ⟨h1.symm, h2, h3, fun h => h4.resolve_left (fun h5 => h5 h)⟩
  · rintro ⟨h1, h2, h3, h4⟩
    refine ⟨⟨⟨h1.symm, h2⟩, h3⟩, ?_⟩
    by_cases h : ((i + 2 : Nat) : Int) < n
    · exact .inr (h4 h)
    · exact .inl h
theorem quasi_spec {n : Int} {p z : Nat} {D : List Int} (h : MatOk n n D) (hI : InD D) {N : Nat} (hN : D.length = N) {H : MH} {rw : Bool} (hp : hget H p = some ⟨D.map u64, rw⟩) :
    Spec Try.prog 9 [mx n n n p N z, i64 0] H fun v H' => v = bl (bo (IsH n n D ∧ Qb n D)) ∧ H' = H := by
  have hpl := lt_of_hget hp
  have hr := h.r1
  have hr0 := h.r0
  have hz : Hid2 (∀ i k : Int, kindM (atM n n n D i k) = 1 ↔ absM (atM n n n D i k) = 0) := fun i k => kind_zero (atM_in hI _ _ _ _ _)
  refine Spec.scalar (enterS Try.func9 [.tmp 4] ?_)
  repeat' first | (with_reducible (show W _ _ _ _ _); with_reducible refine go2 ?_) | (with_reducible (show W _ _ _ _ _); with_reducible refine sg2 ?_ ?_ <;> intro _) | (with_reducible (show W _ _ _ _ _); with_reducible refine sc2 ?_ ?_ <;> intro _) | (with_reducible (show W _ _ (.code (.region 16 _ true) :: _) _ _); with_reducible refine W_draw [(0, []), (1, []), (2, []), (4, []), (5, []), (6, []), (7, []), (8, []), (3, [4]), (9, []), (10, []), (11, []), (12, []), (13, []), (14, []), (15, []), (16, []), (17, []), (19, []), (20, []), (21, []), (22, []), (18, [19]), (23, []), (24, []), (25, []), (26, [])] [4, 19] (by kernel_rfl) ?_)
  refine W_for (fun j ρ H' => ∃ i : Nat, i + j = n.toNat ∧ Hid2 (∀ i' k : Nat, i' < i → (i' : Int) < n → (k : Int) < n → k + 2 ≤ i' → kindM (atM n n n D i' k) = 1) ∧ ρ 1 = i64 0 ∧ ρ 2 = .ptr H.length 0 ∧ ρ 5 = i64 i ∧ H' = H ++ [some ⟨[i64 n, i64 n, i64 n, .slice p 0 N z 1], true⟩]) n.toNat ?_ ?_
  · refine ⟨0, by omega, fun i' k h1 h2 h3 h4 => by omega, ?_⟩
    simp [put, args0]
  rintro j ρ H' ⟨i, hi, hall, h1, h2, h5, rfl⟩
  repeat' first | (with_reducible (show W _ _ _ _ _); with_reducible refine go2 ?_) | (with_reducible (show W _ _ _ _ _); with_reducible refine sg2 ?_ ?_ <;> intro _) | (with_reducible (show W _ _ _ _ _); with_reducible refine sc2 ?_ ?_ <;> intro _) | (with_reducible (show W _ _ (.code (.region 16 _ true) :: _) _ _); with_reducible refine W_draw [(0, []), (1, []), (2, []), (4, []), (5, []), (6, []), (7, []), (8, []), (3, [4]), (9, []), (10, []), (11, []), (12, []), (13, []), (14, []), (15, []), (16, []), (17, []), (19, []), (20, []), (21, []), (22, []), (18, [19]), (23, []), (24, []), (25, []), (26, [])] [4, 19] (by kernel_rfl) ?_)
  · rename_i hlt
    have e5 : IntKind.i64.wrap ((i : Int) - 1) = (i : Int) - 1 := wrap_i64 (by omega)
    refine W_for (fun j' ρ H' => ∃ k : Nat, k + j' = n.toNat ∧ Hid2 (∀ k' : Nat, k' < k → (k' : Int) < n → k' + 2 ≤ i → kindM (atM n n n D i k') = 1) ∧ ρ 1 = i64 0 ∧ ρ 2 = .ptr H.length 0 ∧ ρ 5 = i64 i ∧ ρ 6 = i64 k ∧ H' = H ++ [some ⟨[i64 n, i64 n, i64 n, .slice p 0 N z 1], true⟩]) n.toNat ?_ ?_
    · refine ⟨0, by omega, fun k' hk => by omega, ?_⟩
      simp [put, *]
    clear h1 h2 h5
    rintro j' ρ' H' ⟨k, hk, hrow, h1, h2, h5, h6, rfl⟩
    have e4 : (k : Int) < (i : Int) - 1 → IntKind.i64.wrap ((k : Int) + 1) = ((k + 1 : Nat) : Int) := fun h => by rw [wrap_i64 (by omega)]; omega
    have e3 : IntKind.i64.wrap ((i : Int) + 1) = ((i + 1 : Nat) : Int) := by rw [wrap_i64 (by omega)]; omega
    repeat' first | (with_reducible (show W _ _ _ _ _); with_reducible refine go2 ?_) | (with_reducible (show W _ _ _ _ _); with_reducible refine sg2 ?_ ?_ <;> intro _) | (with_reducible (show W _ _ _ _ _); with_reducible refine sc2 ?_ ?_ <;> intro _) | (with_reducible (show CallK _ _ _ _ _ _ _ _ _ _ _); with_reducible refine ce2 (at_ok h _ _ ((hget_old hpl).trans hp) hN) ?_) | (with_reducible (show CallK _ _ _ _ _ _ _ _ _ _ _); with_reducible refine ce2 (abs_spec _ _) ?_) | (with_reducible (show W _ _ (.code (.region 16 _ true) :: _) _ _); with_reducible refine W_draw [(0, []), (1, []), (2, []), (4, []), (5, []), (6, []), (7, []), (8, []), (3, [4]), (9, []), (10, []), (11, []), (12, []), (13, []), (14, []), (15, []), (16, []), (17, []), (19, []), (20, []), (21, []), (22, []), (18, [19]), (23, []), (24, []), (25, []), (26, [])] [4, 19] (by kernel_rfl) ?_)
    · rename_i a1 a2
      rw [bo_f fun hQ => a2 ((hz _ _).1 (hQ.1 i k hlt (by omega) (by omega)))]
    · rename_i a1 a3
      refine ⟨j' - 1, by omega, k + 1, by omega, fun k' hk' hc' hk2 => ?_, rfl⟩
      by_cases e : k' = k
      · subst e; exact (hz _ _).2 a3
      · exact hrow k' (by omega) hc' hk2
    · rename_i a2
      refine ⟨j - 1, by omega, i + 1, by omega, fun i' k' hi' hr' hc' hk2 => ?_, rfl⟩
      by_cases e : i' = i
      · subst e; exact hrow k' (by omega) hc' hk2
      · exact hall i' k' (by omega) hr' hc' hk2
  · rename_i hge
    have hIs : Hid2 (IsH n n D) := fun i' k hr' hc' hk2 => hall i' k (by omega) hr' hc' hk2
    have z1 : IntKind.i64.wrap (0 + 1) = 1 := by decide
    clear hall
    refine W_for (fun j' ρ H' => ∃ i : Nat, i + j' = n.toNat ∧ Hid2 (∀ k : Nat, k < i → ((k + 1 : Nat) : Int) < n → ¬ kindM (atM n n n D ((k + 1 : Nat) : Int) k) = 1 → pbB n D k = true) ∧ ρ 2 = .ptr H.length 0 ∧ ρ 7 = i64 ((i + 1 : Nat) : Int) ∧ H' = H ++ [some ⟨[i64 n, i64 n, i64 n, .slice p 0 N z 1], true⟩]) n.toNat ?_ ?_
    · refine ⟨0, by omega, fun k hk => by omega, ?_⟩
      simp [put, h2]
      decide
    clear h1 h2 h5 hi
    rintro j' ρ' H' ⟨i, hi, hall, h2, h7, rfl⟩
    have e1 : ((i + 1 : Nat) : Int) < n → IntKind.i64.wrap (((i + 1 : Nat) : Int) + 1) = ((i + 2 : Nat) : Int) := fun h => by rw [wrap_i64 (by omega)]; omega
    have e2 : ((i + 1 : Nat) : Int) < n → IntKind.i64.wrap (((i + 1 : Nat) : Int) - 1) = (i : Int) := fun h => by rw [wrap_i64 (by omega)]; omega
    repeat' first | (with_reducible (show W _ _ _ _ _); with_reducible refine go2 ?_) | (with_reducible (show W _ _ _ _ _); with_reducible refine sg2 ?_ ?_ <;> intro _) | (with_reducible (show W _ _ _ _ _); with_reducible refine sc2 ?_ ?_ <;> intro _) | (with_reducible (show CallK _ _ _ _ _ _ _ _ _ _ _); with_reducible refine ce2 (at_ok h _ _ ((hget_old hpl).trans hp) hN) ?_) | (with_reducible (show CallK _ _ _ _ _ _ _ _ _ _ _); with_reducible refine ce2 (abs_spec _ _) ?_) | (with_reducible (show CallK _ _ _ _ _ _ _ _ _ _ _); with_reducible refine ce2 (neg_spec _ _) ?_) | (with_reducible (show W _ _ (.code (.region 16 _ true) :: _) _ _); with_reducible refine W_draw [(0, []), (1, []), (2, []), (4, []), (5, []), (6, []), (7, []), (8, []), (3, [4]), (9, []), (10, []), (11, []), (12, []), (13, []), (14, []), (15, []), (16, []), (17, []), (19, []), (20, []), (21, []), (22, []), (18, [19]), (23, []), (24, []), (25, []), (26, [])] [4, 19] (by kernel_rfl) ?_)
    all_goals try have hpb := pb_iff (i := i) hz ‹_›
    all_goals first
      | (rw [bo_f fun hQ => ?_]
         have h3 := hpb.1 (hQ.2 i ‹_› fun h => absurd ((hz _ _).1 h) ‹_›)
         clear hz hIs hall hQ hpb
         simp_all; done)
      | (refine ⟨j' - 1, by omega, i + 1, by omega, fun k hk hn hk1 => ?_, rfl⟩
         by_cases e : k = i
         · subst e
           first
             | exact absurd ((hz _ _).2 ‹_›) hk1
             | (rw [hpb]; clear hz hIs hall hpb; simp_all; done)
             | (rename_i b1 b2 b3 b4 b5 b6; rw [hpb]; exact ⟨by simpa using b4, b5, by simpa using b6, fun h => absurd h b3⟩)
         · exact hall k (by omega) hn hk1)
      | skip
    rename_i a1
    rw [bo_t (p := IsH n n D ∧ Qb n D) ⟨hIs, fun k hk => hall k (by omega) hk⟩]

theorem upper_spec (n0 : Nat) (hn7 : n0 ≤ 7) {v : MV} {xs : List Int} {H : MH} (hv : Sl H v xs) (hI : InD xs) (ups : Int) {N : Nat} (hN : n0 * n0 = N) :
    Spec Try.prog 8 [i64 (n0 : Int), v, u64 ups] H fun u H' => ∃ E : List Int, (MatOk n0 n0 E ∧ InD E) ∧ u = mx n0 n0 n0 H.length N N ∧ H' = H ++ [some ⟨E.map u64, true⟩] := by
  have hlen := len22 hv
  have h40 : 0 ≤ (n0 : Int) ∧ (n0 : Int) ≤ 4096 := by omega
  have hNN : ((n0 : Int) * n0).toNat = N := by rw [← hN]; exact_mod_cast Int.toNat_natCast (n0 * n0)
  refine Spec.oneX (G := fun E : List Int => MatOk n0 n0 E ∧ InD E) (v := fun _ p => mx n0 n0 n0 p N N) (cs := fun E => E.map u64) (fun _ => closed_u64 _) (fun _ p => by simp [Cl, Cls']) (fun _ π p _ => by simp [ren, rens]) ?_
  refine enterS Try.func8 [.cell 6 26] ?_
  have hnew : ∀ H, Spec Try.prog 16 [i64 (n0 : Int), i64 (n0 : Int)] H fun v H' => v = mx n0 n0 n0 H.length N N ∧ H' = H ++ [some ⟨(List.replicate N 0).map u64, true⟩] := fun H => by have := new_spec _ _ h40 h40 H; rw [hNN, map_rep] at this; exact this
  repeat' first | (with_reducible (show W _ _ _ _ _); with_reducible refine go2 ?_) | (with_reducible (show W _ _ _ _ _); with_reducible refine sg2 ?_ ?_ <;> intro _) | (with_reducible (show W _ _ _ _ _); with_reducible refine sc2 ?_ ?_ <;> intro _) | (with_reducible (show W _ _ (.code (.region 9 _ true) :: _) _ _); with_reducible refine W_draw [(0, []), (1, []), (2, []), (3, []), (4, []), (5, []), (6, []), (7, []), (8, []), (9, []), (10, []), (11, []), (12, []), (13, []), (14, [])] [] (by kernel_rfl) ?_) | (with_reducible (show W _ _ (.code (.region 15 _ true) :: _) _ _); with_reducible refine W_draw [(0, []), (1, []), (2, []), (3, []), (4, []), (5, []), (6, []), (7, []), (8, [0]), (9, [])] [0] (by kernel_rfl) ?_) | (with_reducible (show W _ _ (.code (.region 19 _ true) :: _) _ _); with_reducible refine W_draw [(0, []), (1, []), (2, []), (3, []), (4, []), (5, []), (6, [0]), (7, [0]), (8, [])] [0] (by kernel_rfl) ?_) | ((with_reducible (show CallK _ _ _ _ _ _ _ _ _ _ _); with_reducible refine cm2 (hnew _) ?_))
  have hia2 : ∀ k : Nat, k < xs.length → iaV (.slice 1 8 (some [.int .u64 0]) true) v (.lit (.int .i64 k)) = some (ixq v k) := fun k h => hv.ia h _ _ _ _
  have hld2 : ∀ (L : MH) (k : Nat), k < xs.length → loadV Try.prog 23 (ixq v k) (H ++ L) = some (u64 (xs.getD k 0)) := fun L k h => (hv.app L).ld (by rw [ty_23]) (by rw [ty_23]) h
  have hzero : MatOk n0 n0 (List.replicate N 0) := by have := MatOk.zero h40 h40; rw [hNN] at this; exact this
  refine W_for (fun j ρ H' => ∃ (i : Nat) (E : List Int), i + j = n0 ∧ MatOk n0 n0 E ∧ InD E ∧ ρ 0 = i64 (n0 : Int) ∧ ρ 1 = v ∧ ρ 2 = u64 ups ∧ ρ 6 = .ptr H.length 0 ∧ ρ 7 = .ptr (H.length + 2) 0 ∧ ρ 8 = i64 i ∧
    H' = H ++ [some ⟨[i64 0, i64 0, i64 0, nils], true⟩, some ⟨E.map u64, true⟩, some ⟨[i64 n0, i64 n0, i64 n0, .slice (H.length + 1) 0 N N 1], true⟩]) n0 ?_ ?_
  · refine ⟨0, List.replicate N 0, by omega, hzero, InD.rep N, ?_⟩
    simp [put, args0]
  rintro j ρ H' ⟨i, E, hi, hE, hEI, h0, h1, h2, h6, h7, h8, rfl⟩
  repeat' first | (with_reducible (show W _ _ _ _ _); with_reducible refine go2 ?_) | (with_reducible (show W _ _ _ _ _); with_reducible refine sg2 ?_ ?_ <;> intro _) | (with_reducible (show W _ _ _ _ _); with_reducible refine sc2 ?_ ?_ <;> intro _) | (with_reducible (show W _ _ (.code (.region 9 _ true) :: _) _ _); with_reducible refine W_draw [(0, []), (1, []), (2, []), (3, []), (4, []), (5, []), (6, []), (7, []), (8, []), (9, []), (10, []), (11, []), (12, []), (13, []), (14, [])] [] (by kernel_rfl) ?_) | (with_reducible (show W _ _ (.code (.region 15 _ true) :: _) _ _); with_reducible refine W_draw [(0, []), (1, []), (2, []), (3, []), (4, []), (5, []), (6, []), (7, []), (8, [0]), (9, [])] [0] (by kernel_rfl) ?_) | (with_reducible (show W _ _ (.code (.region 19 _ true) :: _) _ _); with_reducible refine W_draw [(0, []), (1, []), (2, []), (3, []), (4, []), (5, []), (6, [0]), (7, [0]), (8, [])] [0] (by kernel_rfl) ?_)
  · rename_i hlt
    refine W_for (fun j' ρ H' => ∃ (k : Nat) (E : List Int), k + j' = n0 ∧ MatOk n0 n0 E ∧ InD E ∧ ρ 0 = i64 (n0 : Int) ∧ ρ 1 = v ∧ ρ 2 = u64 ups ∧ ρ 6 = .ptr H.length 0 ∧ ρ 7 = .ptr (H.length + 2) 0 ∧ ρ 8 = i64 i ∧ ρ 9 = i64 k ∧
      H' = H ++ [some ⟨[i64 0, i64 0, i64 0, nils], true⟩, some ⟨E.map u64, true⟩, some ⟨[i64 n0, i64 n0, i64 n0, .slice (H.length + 1) 0 N N 1], true⟩]) (n0 - i) ?_ ?_
    · refine ⟨i, E, by omega, hE, hEI, ?_⟩
      simp [put, *]
    clear h0 h1 h2 h6 h7 h8 hE hEI E
    rintro j' ρ' H' ⟨k, E, hk, hE, hEI, h0, h1, h2, h6, h7, h8, h9, rfl⟩
    have hEl : E.length = N := hE.len.trans hNN
    have em : IntKind.i64.wrap ((i : Int) * n0) = ((i * n0 : Nat) : Int) := by
      have : i * n0 ≤ 7 * 7 := Nat.mul_le_mul (by omega) hn7
      rw [← Int.natCast_mul, wrap_i64 (by omega)]
    have ea : (k : Int) < n0 → IntKind.i64.wrap (((i * n0 : Nat) : Int) + k) = ((i * n0 + k : Nat) : Int) := fun h => by
      have : i * n0 ≤ 7 * 7 := Nat.mul_le_mul (by omega) hn7
      rw [wrap_i64 (by omega)]; omega
    have f1 : 0 < (xs.length : Int) → ((xs.length : Int) = 0) = False := fun h => eq_false (by omega)
    have f2 : ((i * n0 + k : Nat) : Int).tmod xs.length = (((i * n0 + k) % xs.length : Nat) : Int) := tmod_nat _ _
    have f3 : 0 < (xs.length : Int) → iaV (.slice 1 8 (some [.int .u64 0]) true) v (.lit (.int .i64 (((i * n0 + k) % xs.length : Nat) : Int))) = some (ixq v ((i * n0 + k) % xs.length)) := fun h => hia2 _ (Nat.mod_lt _ (by omega))
    have f4 : ∀ L, 0 < (xs.length : Int) → loadV Try.prog 23 (ixq v ((i * n0 + k) % xs.length)) (H ++ L) = some (u64 (xs.getD ((i * n0 + k) % xs.length) 0)) := fun L h => hld2 _ _ (Nat.mod_lt _ (by omega))
    have ek : (k : Int) < n0 → IntKind.i64.wrap ((k : Int) + 1) = ((k + 1 : Nat) : Int) := fun h => by rw [wrap_i64 (by omega)]; omega
    have ei : IntKind.i64.wrap ((i : Int) + 1) = ((i + 1 : Nat) : Int) := by rw [wrap_i64 (by omega)]; omega
    repeat' first | (with_reducible (show W _ _ _ _ _); with_reducible refine go2 ?_) | (with_reducible (show W _ _ _ _ _); with_reducible refine sg2 ?_ ?_ <;> intro _) | (with_reducible (show W _ _ _ _ _); with_reducible refine sc2 ?_ ?_ <;> intro _) | (with_reducible (show W _ _ (.code (.region 9 _ true) :: _) _ _); with_reducible refine W_draw [(0, []), (1, []), (2, []), (3, []), (4, []), (5, []), (6, []), (7, []), (8, []), (9, []), (10, []), (11, []), (12, []), (13, []), (14, [])] [] (by kernel_rfl) ?_) | (with_reducible (show W _ _ (.code (.region 15 _ true) :: _) _ _); with_reducible refine W_draw [(0, []), (1, []), (2, []), (3, []), (4, []), (5, []), (6, []), (7, []), (8, [0]), (9, [])] [0] (by kernel_rfl) ?_) | (with_reducible (show W _ _ (.code (.region 19 _ true) :: _) _ _); with_reducible refine W_draw [(0, []), (1, []), (2, []), (3, []), (4, []), (5, []), (6, [0]), (7, [0]), (8, [])] [0] (by kernel_rfl) ?_) | ((with_reducible (show CallK _ _ _ _ _ _ _ _ _ _ _); with_reducible refine cm2 (set_ok hE _ _ _ (hget_newL rfl) hEl) ?_))
    · exact ⟨j' - 1, by omega, k + 1, _, by omega, hE.set _ _ _, hEI.setm _ _ _ _ _ (getD_in hI _), rfl, rfl⟩
    · exact ⟨j' - 1, by omega, k + 1, E, by omega, hE, hEI, rfl, rfl⟩
    · exact ⟨j - 1, by omega, i + 1, E, by omega, hE, hEI, rfl, rfl⟩
  · rename_i hge
    refine W_for (fun j' ρ H' => ∃ (i : Nat) (E : List Int), i + j' = n0 + 1 ∧ MatOk n0 n0 E ∧ InD E ∧ ρ 0 = i64 (n0 : Int) ∧ ρ 1 = v ∧ ρ 2 = u64 ups ∧ ρ 6 = .ptr H.length 0 ∧ ρ 7 = .ptr (H.length + 2) 0 ∧ ρ 10 = i64 i ∧
      H' = H ++ [some ⟨[i64 0, i64 0, i64 0, nils], true⟩, some ⟨E.map u64, true⟩, some ⟨[i64 n0, i64 n0, i64 n0, .slice (H.length + 1) 0 N N 1], true⟩]) (n0 + 1) ?_ ?_
    · refine ⟨0, E, by omega, hE, hEI, ?_⟩
      simp [put, *]
    clear h0 h1 h2 h6 h7 h8 hE hEI E hi
    rintro j' ρ' H' ⟨i, E, hi, hE, hEI, h0, h1, h2, h6, h7, h10, rfl⟩
    have hEl : E.length = N := hE.len.trans hNN
    have hshr : ∀ x, ¬ IntKind.u64.wrap x < 0 := fun x => by have := (wrap_inU x).1; omega
    have f1 : 0 < (xs.length : Int) → ((xs.length : Int) = 0) = False := fun h => eq_false (by omega)
    have f2 : (i : Int).tmod xs.length = ((i % xs.length : Nat) : Int) := tmod_nat _ _
    have f3 : 0 < (xs.length : Int) → iaV (.slice 1 8 (some [.int .u64 0]) true) v (.lit (.int .i64 ((i % xs.length : Nat) : Int))) = some (ixq v (i % xs.length)) := fun h => hia2 _ (Nat.mod_lt _ (by omega))
    have f4 : ∀ L, 0 < (xs.length : Int) → loadV Try.prog 23 (ixq v (i % xs.length)) (H ++ L) = some (u64 (xs.getD (i % xs.length) 0)) := fun L h => hld2 _ _ (Nat.mod_lt _ (by omega))
    have ei : IntKind.i64.wrap ((i : Int) + 1) = ((i + 1 : Nat) : Int) := by rw [wrap_i64 (by omega)]; omega
    have ei2 : IntKind.i64.wrap (((i + 1 : Nat) : Int) + 1) = ((i + 2 : Nat) : Int) := by rw [wrap_i64 (by omega)]; omega
    have hdata : ∀ (a : Option MO) (L : MH), hget (H ++ a :: some ⟨E.map u64, true⟩ :: L) (H.length + 1) = some ⟨E.map u64, true⟩ := fun a L => hget_newL rfl
    have hE2 : MatOk n0 n0 (setM n0 n0 n0 E ((i + 1 : Nat) : Int) ((i + 1 : Nat) : Int) (atM n0 n0 n0 E i i)) := hE.set _ _ _
    have hEI2 : InD (setM n0 n0 n0 E ((i + 1 : Nat) : Int) ((i + 1 : Nat) : Int) (atM n0 n0 n0 E i i)) := hEI.setm _ _ _ _ _ (atM_in hEI _ _ _ _ _)
    have hEl2 := hE2.len.trans hNN
    repeat' first | (with_reducible (show W _ _ _ _ _); with_reducible refine go2 ?_) | (with_reducible (show W _ _ _ _ _); with_reducible refine sg2 ?_ ?_ <;> intro _) | (with_reducible (show W _ _ _ _ _); with_reducible refine sc2 ?_ ?_ <;> intro _) | (with_reducible (show CallK _ _ _ _ _ _ _ _ _ _ _); with_reducible refine ce2 (at_ok hE _ _ (hdata _ _) hEl) ?_) | (with_reducible (show CallK _ _ _ _ _ _ _ _ _ _ _); with_reducible refine ce2 (abs_spec _ _) ?_) | (with_reducible (show CallK _ _ _ _ _ _ _ _ _ _ _); with_reducible refine ce2 (kind_spec _ _) ?_) | (with_reducible (show CallK _ _ _ _ _ _ _ _ _ _ _); with_reducible refine ce2 (sign_spec _ _ _) ?_) | (with_reducible (show CallK _ _ _ _ _ _ _ _ _ _ _); with_reducible refine ce2 (flip_spec _ _) ?_) | (with_reducible (show W _ _ (.code (.region 9 _ true) :: _) _ _); with_reducible refine W_draw [(0, []), (1, []), (2, []), (3, []), (4, []), (5, []), (6, []), (7, []), (8, []), (9, []), (10, []), (11, []), (12, []), (13, []), (14, [])] [] (by kernel_rfl) ?_) | (with_reducible (show W _ _ (.code (.region 15 _ true) :: _) _ _); with_reducible refine W_draw [(0, []), (1, []), (2, []), (3, []), (4, []), (5, []), (6, []), (7, []), (8, [0]), (9, [])] [0] (by kernel_rfl) ?_) | (with_reducible (show W _ _ (.code (.region 19 _ true) :: _) _ _); with_reducible refine W_draw [(0, []), (1, []), (2, []), (3, []), (4, []), (5, []), (6, [0]), (7, [0]), (8, [])] [0] (by kernel_rfl) ?_) | ((with_reducible (show CallK _ _ _ _ _ _ _ _ _ _ _); first | (with_reducible refine cm2 (set_ok hE _ _ _ (hdata _ _) hEl) ?_) | (with_reducible refine cm2 (set_ok hE2 _ _ _ (hget_newL rfl) hEl2) ?_)))
    all_goals first
      | exact ⟨j' - 2, by omega, i + 2, _, by omega, hE2.set _ _ _, hEI2.setm _ _ _ _ _ (flip_in _), rfl, rfl⟩
      | exact ⟨j' - 1, by omega, i + 1, E, by omega, hE, hEI, rfl, rfl⟩
      | exact ⟨E, H.length + 1, ⟨hE, hEI⟩, rfl, by omega, hget_newL rfl, (Old.refl H).app _⟩
end Go.Proofs.Ytamoljalficfgaa.M
