/- The law SchurShapes, in the small machine. -/
import Derived.Test.YtamoljalficfgaaC56
import Derived.Test.YtamoljalficfgaaC14
set_option linter.unusedSimpArgs false
set_option linter.unusedVariables false
set_option pp.deepTerms false
set_option pp.maxSteps 1500
set_option maxRecDepth 10000
set_option maxHeartbeats 16000000
namespace Go.Proofs.Ytamoljalficfgaa.M
open Go Go.Proofs

theorem blocks_rc {r c : Int} {p z : Nat} {D : List Int} (h : MatOk r c D) (hrc : ¬ r = c) {N : Nat} (hN : D.length = N) (H : MH) : Spec Try.prog 10 [mx r c c p N z] H fun u H' => u = .tup [nils, bl false] ∧ H' = H := by
  refine Spec.scalar (enterS Try.func10 [.tmp 2, .tmp 3] ?_)
  repeat' first | (with_reducible (show W _ _ _ _ _); with_reducible refine go2 ?_) | (with_reducible (show W _ _ _ _ _); with_reducible refine sg2 ?_ ?_ <;> intro _) | (with_reducible (show W _ _ _ _ _); with_reducible refine sc2 ?_ ?_ <;> intro _) | (with_reducible (show CallK _ _ _ _ _ _ _ _ _ _ _); with_reducible refine ce2 (check_ok h hN _) ?_) | (with_reducible (show W _ _ (.code (.region 9 _ true) :: _) _ _); with_reducible refine W_draw [(0, []), (1, []), (2, []), (4, []), (5, []), (6, []), (7, []), (9, []), (10, []), (11, []), (12, []), (14, []), (15, []), (16, []), (17, []), (18, []), (21, []), (3, [4, 9, 14, 21]), (8, [9, 14, 21]), (13, [14, 21]), (19, [21]), (20, []), (22, [])] [4, 9, 14, 21] (by kernel_rfl) ?_)
  all_goals trivial
theorem blocks_str {r c s : Int} (hs : s < c) (p n z : Nat) (H : MH) : Spec Try.prog 10 [mx r c s p n z] H fun u H' => u = .tup [nils, bl false] ∧ H' = H := by
  refine Spec.scalar (enterS Try.func10 [.tmp 2, .tmp 3] ?_)
  repeat' first | (with_reducible (show W _ _ _ _ _); with_reducible refine go2 ?_) | (with_reducible (show W _ _ _ _ _); with_reducible refine sg2 ?_ ?_ <;> intro _) | (with_reducible (show W _ _ _ _ _); with_reducible refine sc2 ?_ ?_ <;> intro _) | (with_reducible (show CallK _ _ _ _ _ _ _ _ _ _ _); with_reducible refine ce2 (check_str hs _ _ _ _) ?_) | (with_reducible (show W _ _ (.code (.region 9 _ true) :: _) _ _); with_reducible refine W_draw [(0, []), (1, []), (2, []), (4, []), (5, []), (6, []), (7, []), (9, []), (10, []), (11, []), (12, []), (14, []), (15, []), (16, []), (17, []), (18, []), (21, []), (3, [4, 9, 14, 21]), (8, [9, 14, 21]), (13, [14, 21]), (19, [21]), (20, []), (22, [])] [4, 9, 14, 21] (by kernel_rfl) ?_)
  all_goals trivial
theorem values_rc {r c : Int} {p z : Nat} {D : List Int} (h : MatOk r c D) (hrc : ¬ r = c) {N : Nat} (hN : D.length = N) (H : MH) : Spec Try.prog 11 [mx r c c p N z] H fun u H' => u = .tup [nils, u8 0, i64 4] ∧ H' = H := by
  refine Spec.scalar (enterS Try.func11 [.tmp 2, .tmp 3, .tmp 4] ?_)
  repeat' first | (with_reducible (show W _ _ _ _ _); with_reducible refine go2 ?_) | (with_reducible (show W _ _ _ _ _); with_reducible refine sg2 ?_ ?_ <;> intro _) | (with_reducible (show W _ _ _ _ _); with_reducible refine sc2 ?_ ?_ <;> intro _) | (with_reducible (show CallK _ _ _ _ _ _ _ _ _ _ _); with_reducible refine ce2 (blocks_rc h hrc hN _) ?_) | (with_reducible (show W _ _ (.code (.region 11 _ true) :: _) _ _); with_reducible refine W_draw [(0, []), (1, []), (2, []), (4, []), (5, []), (6, []), (7, []), (9, []), (10, []), (11, []), (12, []), (14, []), (15, []), (16, []), (17, []), (18, []), (25, []), (3, [4, 9, 14, 25]), (8, [9, 14, 25]), (13, [14, 25]), (19, [25]), (20, []), (21, [25]), (22, []), (23, []), (24, []), (26, []), (27, [])] [4, 9, 14, 25] (by kernel_rfl) ?_)
  all_goals trivial
theorem len11 {cs : List MV} (h : cs.length = 11) : ∃ a b c d e f g i j k l, cs = [a, b, c, d, e, f, g, i, j, k, l] := by
  match cs, h with
  | [a, b, c, d, e, f, g, i, j, k, l], _ => exact ⟨a, b, c, d, e, f, g, i, j, k, l, rfl⟩
/-- What schur.Of answers for a square, whatever it is: it ends. -/
theorem of_any {n : Int} {p0 z : Nat} {D : List Int} (h : MatOk n n D) (hI : InD D) (hn8 : n ≤ 90) {N : Nat} (hN : D.length = N) {H : MH} {rw : Bool} (hp : hget H p0 = some ⟨D.map u64, rw⟩) :
    Spec Try.prog 20 [mx n n n p0 N z] H fun u H' => ∃ (cs : List MV) (e : Int), cs.length = 11 ∧ cs.all one = true ∧ u = .tup [.agg cs, i64 e] ∧ Old H H' := by
  by_cases hf : finD D = true
  · by_cases hR : (redM n D).1 = 0
    · exact of_core h hI hn8 hN hp hf hR
    · exact (of_er (e := 6) (by decide) (fun L => reduce_er h hI hn8 hN (z := z) (hget_appL (L := L) hp) hf hR)).mono fun u H' ⟨h1, h2⟩ => ⟨_, 6, rfl, rfl, h1, by rw [h2]; exact Old.refl _⟩
  · rw [Bool.not_eq_true] at hf
    exact (of_er (e := 6) (by decide) (fun L => reduce_nf h hN (z := z) (hget_appL (L := L) hp) hf)).mono fun u H' ⟨h1, h2⟩ => ⟨_, 6, rfl, rfl, h1, by rw [h2]; exact Old.refl _⟩
theorem of_rc {r c : Int} {p0 z : Nat} {D : List Int} (h : MatOk r c D) (hrc : ¬ r = c) {N : Nat} (hN : D.length = N) (H : MH) : Spec Try.prog 20 [mx r c c p0 N z] H fun u H' => u = .tup [zeroF, i64 4] ∧ H' = H :=
  of_er (e := 4) (by decide) (fun L => reduce_shape h hrc hN _)
theorem of_str {r c s : Int} (hs : s < c) (p n z : Nat) (H : MH) : Spec Try.prog 20 [mx r c s p n z] H fun u H' => u = .tup [zeroF, i64 4] ∧ H' = H :=
  of_er (e := 4) (by decide) (fun L => reduce_str hs _ _ _ _)

theorem sshapes (n0 m0 : Int) (hn0 : -9223372036854775808 ≤ n0 ∧ n0 < 9223372036854775808) {v : MV} {xs : List Int} {H : MH} (hv : Sl H v xs) (hI : InD xs) :
    Spec Try.prog 5 [i64 n0, i64 m0, v] H fun u H' => u = bl true ∧ H' = H := by
  have hlen22 := len22 hv
  have h7 := and7 n0
  have h8 := and7 m0
  refine Spec.scalar (enterS Try.func5 [.tmp 6] ?_)
  repeat' first | (with_reducible (show W _ _ _ _ _); with_reducible refine go2 ?_) | (with_reducible (show W _ _ _ _ _); with_reducible refine sg2 ?_ ?_ <;> intro _) | (with_reducible (show W _ _ _ _ _); with_reducible refine sc2 ?_ ?_ <;> intro _) | (with_reducible (show CallK _ _ _ _ _ _ _ _ _ _ _); with_reducible refine ce2 (head19_spec _) ?_) | (with_reducible (show W _ _ (.code (.region 10 _ true) :: _) _ _); with_reducible refine W_draw [(0, []), (1, []), (2, []), (3, []), (4, []), (5, []), (6, []), (7, []), (8, []), (9, []), (10, []), (11, [])] [] (by kernel_rfl) ?_)
  · trivial
  rename_i hl100
  generalize bits .and .i64 n0 7 = r at h7
  generalize bits .and .i64 m0 7 = c at h8
  obtain ⟨r, rfl⟩ := Int.eq_ofNat_of_zero_le h7.1
  obtain ⟨c, rfl⟩ := Int.eq_ofNat_of_zero_le h8.1
  have hr7 : r ≤ 7 := by omega
  have hc7 : c ≤ 7 := by omega
  obtain ⟨N, hN⟩ : ∃ N, r * c = N := ⟨_, rfl⟩
  have hN49 : N ≤ 49 := by rw [← hN]; exact Nat.mul_le_mul hr7 hc7
  have hr40 : 0 ≤ (r : Int) ∧ (r : Int) ≤ 4096 := by omega
  have hc40 : 0 ≤ (c : Int) ∧ (c : Int) ≤ 4096 := by omega
  have hNN : ((r : Int) * c).toNat = N := by rw [← hN]; exact_mod_cast Int.toNat_natCast (r * c)
  have hnew : ∀ H, Spec Try.prog 16 [i64 (r : Int), i64 (c : Int)] H fun v H' => v = mx r c c H.length N N ∧ H' = H ++ [some ⟨(List.replicate N 0).map u64, true⟩] := fun H => by have := new_spec _ _ hr40 hc40 H; rw [hNN, map_rep] at this; exact this
  (with_reducible (show CallK _ _ _ _ _ _ _ _ _ _ _)); with_reducible refine cm2 (hnew _) ?_
  repeat' first | (with_reducible (show W _ _ _ _ _); with_reducible refine go2 ?_) | (with_reducible (show W _ _ _ _ _); with_reducible refine sg2 ?_ ?_ <;> intro _) | (with_reducible (show W _ _ _ _ _); with_reducible refine sc2 ?_ ?_ <;> intro _) | (with_reducible (show W _ _ (.code (.region 10 _ true) :: _) _ _); with_reducible refine W_draw [(0, []), (1, []), (2, []), (3, []), (4, []), (5, []), (6, []), (7, []), (8, []), (9, []), (10, []), (11, [])] [] (by kernel_rfl) ?_)
  have hia2 : ∀ k : Nat, k < xs.length → iaV (.slice 1 8 (some [.int .u64 0]) true) v (.lit (.int .i64 k)) = some (ixq v k) := fun k h => hv.ia h _ _ _ _
  have hld2 : ∀ (L : MH) (k : Nat), k < xs.length → loadV Try.prog 23 (ixq v k) (H ++ L) = some (u64 (xs.getD k 0)) := fun L k h => (hv.app L).ld (by rw [ty_23]) (by rw [ty_23]) h
  refine W_for (fun j ρ H' => ∃ (k : Nat) (E : List Int), k + j = N ∧ E.length = N ∧ InD E ∧ ρ 0 = i64 n0 ∧ ρ 2 = v ∧ ρ 7 = .ptr (H.length + 1) 0 ∧ ρ 31 = i64 (N : Int) ∧ ρ 32 = i64 (k : Int) ∧
    H' = H ++ [some ⟨E.map u64, true⟩, some ⟨[i64 r, i64 c, i64 c, .slice H.length 0 N N 1], true⟩]) N ?_ ?_
  · refine ⟨0, List.replicate N 0, by omega, List.length_replicate, InD.rep N, ?_⟩
    simp [put, args0]
  rintro j ρ H' ⟨k, E, hk, hEl, hEI, h0, h2, h7', h31, h32, rfl⟩
  have f1 : 0 < (xs.length : Int) → ((xs.length : Int) = 0) = False := fun h => eq_false (by omega)
  have f2 : (k : Int).tmod xs.length = ((k % xs.length : Nat) : Int) := tmod_nat _ _
  have f3 : 0 < (xs.length : Int) → iaV (.slice 1 8 (some [.int .u64 0]) true) v (.lit (.int .i64 ((k % xs.length : Nat) : Int))) = some (ixq v (k % xs.length)) := fun h => hia2 _ (Nat.mod_lt _ (by omega))
  have f4 : ∀ L, 0 < (xs.length : Int) → loadV Try.prog 23 (ixq v (k % xs.length)) (H ++ L) = some (u64 (xs.getD (k % xs.length) 0)) := fun L h => hld2 _ _ (Nat.mod_lt _ (by omega))
  have f5 : ∀ m : Nat, (0 ≤ (m : Int)) = True := fun m => eq_true (by omega)
  have f6 : ∀ m : Nat, (m : Int).toNat = m := fun m => Int.toNat_natCast m
  have f7 : ∀ m : Nat, m * 1 = m := Nat.mul_one
  have f8 : (k : Int) < N → (k + 1 ≤ (List.map u64 E).length) = True := fun h => eq_true (by rw [List.length_map]; omega)
  have ek : (k : Int) < N → IntKind.i64.wrap ((k : Int) + 1) = ((k + 1 : Nat) : Int) := fun h => by rw [wrap_i64 (by omega)]; omega
  by_cases hkN : (k : Int) < N
  · repeat' first | (with_reducible (show W _ _ _ _ _); with_reducible refine go2 ?_) | (with_reducible (show W _ _ _ _ _); with_reducible refine sg2 ?_ ?_ <;> intro _) | (with_reducible (show W _ _ _ _ _); with_reducible refine sc2 ?_ ?_ <;> intro _) | (with_reducible (show W _ _ (.code (.region 10 _ true) :: _) _ _); with_reducible refine W_draw [(0, []), (1, []), (2, []), (3, []), (4, []), (5, []), (6, []), (7, []), (8, []), (9, []), (10, []), (11, [])] [] (by kernel_rfl) ?_)
    · exact ⟨j - 1, by omega, k + 1, E.set k (xs.getD (k % xs.length) 0), by omega, by rw [List.length_set]; exact hEl, hEI.set _ (getD_in hI _), rfl, by rw [List.map_set]⟩
    · exact ⟨j - 1, by omega, k + 1, E, by omega, hEl, hEI, rfl, rfl⟩
  clear f1 f2 f3 f4 f8 ek hia2 hld2 hnew
  have hE : MatOk r c E := ⟨hr40.1, hr40.2, hc40.1, hc40.2, by rw [hEl, hNN]⟩
  have hd : ∀ L : MH, hget (H ++ some ⟨E.map u64, true⟩ :: L) H.length = some ⟨E.map u64, true⟩ := fun L => hget_new'
  have hm3 : (-3 : Int) < c := by omega
  have hbud : 0 < n0 → IntKind.i64.wrap (300 + IntKind.i64.wrap (30 * (if 4096 < n0 then 4096 else n0))) = IntKind.i64.wrap (IntKind.i64.wrap (30 * (if 0 < (if 4096 < n0 then 4096 else n0) then (if 4096 < n0 then 4096 else n0) else 0)) + 300) := fun h => by
    rw [if_pos (show 0 < (if 4096 < n0 then 4096 else n0) by split <;> omega), Int.add_comm]
  have hbud2 : ¬ 0 < n0 → IntKind.i64.wrap (IntKind.i64.wrap (30 * (if 0 < (if 4096 < n0 then 4096 else n0) then (if 4096 < n0 then 4096 else n0) else 0)) + 300) = 300 := fun h => by
    rw [if_neg (show ¬ 4096 < n0 by omega), if_neg h]; decide
  by_cases hrc : r = c
  · subst hrc
    repeat' first | (with_reducible (show W _ _ _ _ _); with_reducible refine go2 ?_) | (with_reducible (show W _ _ _ _ _); with_reducible refine sg2 ?_ ?_ <;> intro _) | (with_reducible (show W _ _ (.code (.region 10 _ true) :: _) _ _); with_reducible refine W_draw [(0, []), (1, []), (2, []), (3, []), (4, []), (5, []), (6, []), (7, []), (8, []), (9, []), (10, []), (11, [])] [] (by kernel_rfl) ?_)
    (with_reducible (show CallK _ _ _ _ _ _ _ _ _ _ _)); with_reducible refine cx2 (of_any hE hEI (by omega) hEl (hd _)) ?_
    rintro u' C ⟨cs, e, hcl, hco, rfl, hold⟩
    obtain ⟨a0, a1, a2, a3, a4, a5, a6, a7, a8, a9, a10, rfl⟩ := len11 hcl
    simp only [List.all_cons, List.all_nil, Bool.and_true, Bool.and_eq_true] at hco
    obtain ⟨o0, o1, o2, o3, o4, o5, o6, o7, o8, o9, o10⟩ := hco
    have hdC := hold.get (hd [some ⟨[i64 r, i64 r, i64 r, .slice H.length 0 N N 1], true⟩])
    have hbC : hget C (H.length + 1) = some ⟨[i64 r, i64 r, i64 r, .slice H.length 0 N N 1], true⟩ := hold.get (hget_newL rfl)
    have q1 := lt_of_hget hbC
    have hbL : ∀ L, hget (C ++ L) (H.length + 1) = _ := fun L => hget_appL hbC
    have hsL : ∀ x L, hget (C.set (H.length + 1) x ++ L) (H.length + 1) = x := fun x L => hget_sa q1
    have hoH : Old H C := ⟨by have := hold.1; simp at this; omega, fun q hq => by rw [hold.2 q (by simp; omega), List.getElem?_append_left hq]⟩
    repeat' first | (with_reducible (show W _ _ _ _ _); with_reducible refine go2 ?_) | (with_reducible (show W _ _ _ _ _); with_reducible refine sg2 ?_ ?_ <;> intro _) | (with_reducible (show W _ _ (.code (.region 10 _ true) :: _) _ _); with_reducible refine W_draw [(0, []), (1, []), (2, []), (3, []), (4, []), (5, []), (6, []), (7, []), (8, []), (9, []), (10, []), (11, [])] [] (by kernel_rfl) ?_)
    (with_reducible (show CallK _ _ _ _ _ _ _ _ _ _ _)); with_reducible refine cx2 (blocks_spec hE (by omega) hEl (hget_appL hdC)) ?_
    rintro u' C' ⟨v1, J1, rfl, rfl, _⟩
    generalize (blocksM r E).isSome = bs
    repeat' first | (with_reducible (show W _ _ _ _ _); with_reducible refine go2 ?_) | (with_reducible (show W _ _ _ _ _); with_reducible refine sg2 ?_ ?_ <;> intro _) | (with_reducible (show W _ _ (.code (.region 10 _ true) :: _) _ _); with_reducible refine W_draw [(0, []), (1, []), (2, []), (3, []), (4, []), (5, []), (6, []), (7, []), (8, []), (9, []), (10, []), (11, [])] [] (by kernel_rfl) ?_)
    (with_reducible (show CallK _ _ _ _ _ _ _ _ _ _ _)); with_reducible refine cx2 (values_spec hE (by omega) hEl (hget_appL hdC)) ?_
    rintro u' C' ⟨v2, J2, rfl, rfl, _⟩
    generalize (if (blocksM r E).isSome = true then (0 : Int) else 4) = ev
    generalize valsG r E = gv
    refine W_mem (fun C => hget C (H.length + 1) = some ⟨[i64 r, i64 r, i64 r, .slice H.length 0 N N 1], true⟩ ∧ Old H C) ⟨?_, ?_⟩ ?_
    · simp only [List.append_assoc]; exact hget_appL hbC
    · simp only [List.append_assoc]; exact hoH.app _
    clear hdC hbC q1 hbL hsL hoH hold
    rintro C2 ⟨hbC, hoH⟩
    have q1 := lt_of_hget hbC
    have hbL : ∀ L, hget (C2 ++ L) (H.length + 1) = _ := fun L => hget_appL hbC
    have hsL : ∀ x L, hget (C2.set (H.length + 1) x ++ L) (H.length + 1) = x := fun x L => hget_sa q1
    repeat' first | (with_reducible (show W _ _ _ _ _); with_reducible refine go2 ?_) | (with_reducible (show W _ _ _ _ _); with_reducible refine sg2 ?_ ?_ <;> intro _) | (with_reducible (show W _ _ _ _ _); with_reducible refine sc2 ?_ ?_ <;> intro _) | (with_reducible (show CallK _ _ _ _ _ _ _ _ _ _ _); with_reducible refine ce2 (of_str hm3 _ _ _ _) ?_) | (with_reducible (show CallK _ _ _ _ _ _ _ _ _ _ _); with_reducible refine ce2 (blocks_str hm3 _ _ _ _) ?_) | (with_reducible (show CallK _ _ _ _ _ _ _ _ _ _ _); with_reducible refine ce2 (budget_spec _ _) ?_) | (with_reducible (show W _ _ (.code (.region 10 _ true) :: _) _ _); with_reducible refine W_draw [(0, []), (1, []), (2, []), (3, []), (4, []), (5, []), (6, []), (7, []), (8, []), (9, []), (10, []), (11, [])] [] (by kernel_rfl) ?_)
    all_goals exact ((hoH.setq _ (by omega)).app _).junk
  · have hrc2 : ¬ (r : Int) = c := by omega
    repeat' first | (with_reducible (show W _ _ _ _ _); with_reducible refine go2 ?_) | (with_reducible (show W _ _ _ _ _); with_reducible refine sg2 ?_ ?_ <;> intro _) | (with_reducible (show W _ _ _ _ _); with_reducible refine sc2 ?_ ?_ <;> intro _) | (with_reducible (show CallK _ _ _ _ _ _ _ _ _ _ _); with_reducible refine ce2 (of_rc hE hrc2 hEl _) ?_) | (with_reducible (show CallK _ _ _ _ _ _ _ _ _ _ _); with_reducible refine ce2 (blocks_rc hE hrc2 hEl _) ?_) | (with_reducible (show CallK _ _ _ _ _ _ _ _ _ _ _); with_reducible refine ce2 (values_rc hE hrc2 hEl _) ?_) | (with_reducible (show CallK _ _ _ _ _ _ _ _ _ _ _); with_reducible refine ce2 (of_str hm3 _ _ _ _) ?_) | (with_reducible (show CallK _ _ _ _ _ _ _ _ _ _ _); with_reducible refine ce2 (blocks_str hm3 _ _ _ _) ?_) | (with_reducible (show CallK _ _ _ _ _ _ _ _ _ _ _); with_reducible refine ce2 (budget_spec _ _) ?_) | (with_reducible (show W _ _ (.code (.region 10 _ true) :: _) _ _); with_reducible refine W_draw [(0, []), (1, []), (2, []), (3, []), (4, []), (5, []), (6, []), (7, []), (8, []), (9, []), (10, []), (11, [])] [] (by kernel_rfl) ?_)
    all_goals trivial
end Go.Proofs.Ytamoljalficfgaa.M
