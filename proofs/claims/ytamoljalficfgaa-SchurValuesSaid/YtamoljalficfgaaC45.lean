/- The law SchurValues, in the small machine. -/
import Derived.Test.YtamoljalficfgaaC44
import Derived.Test.YtamoljalficfgaaC14
set_option linter.unusedSimpArgs false
set_option linter.unusedVariables false
set_option pp.deepTerms false
set_option pp.maxSteps 1500
set_option maxRecDepth 10000
set_option maxHeartbeats 8000000
namespace Go.Proofs.Ytamoljalficfgaa.M
open Go Go.Proofs

theorem Olds.junk {H C : MH} (h : Olds H C) : ∃ J, C = H ++ J := by
  refine ⟨C.drop H.length, ?_⟩
  have ht : C.take H.length = H := by
    apply List.ext_getElem?
    intro i
    rw [List.getElem?_take]
    split
    · exact h.2 i (by assumption)
    · rw [List.getElem?_eq_none (by omega)]
  conv => lhs; rw [← List.take_append_drop H.length C, ht]
/-- The blocks from a row on, one behind the other. -/
def Ch (n : Int) (D : List Int) : Nat → List Nat → Prop
  | i, [] => (i : Int) = n
  | i, x :: t => x = i ∧ (i : Int) < n ∧ ((stB n D i = true ∧ Ch n D (i + 1) t) ∨ (stB n D i = false ∧ ((i + 1 : Nat) : Int) < n ∧ Ch n D (i + 2) t))
theorem blk_ch {n : Int} {D : List Int} : ∀ {f i : Nat} {L : List Nat}, n ≤ (i : Int) + f → (i : Int) ≤ n → blk n D f i = some L → Ch n D i L
  | 0, i, L, h, h2, hb => by
    cases hb
    show (i : Int) = n
    omega
  | f + 1, i, L, h, h2, hb => by
    by_cases hi : (i : Int) < n
    · cases hs : stB n D i with
      | true =>
        rw [blk_st hi hs] at hb
        obtain ⟨L', h1, rfl⟩ := Option.map_eq_some_iff.1 hb
        exact ⟨rfl, hi, .inl ⟨hs, blk_ch (by omega) (by omega) h1⟩⟩
      | false =>
        have hs2 := hs
        unfold stB at hs2
        simp only [Bool.or_eq_false_iff, decide_eq_false_iff_not] at hs2
        cases hp : pbB n D i with
        | true =>
          rw [blk_pb hi hs hp] at hb
          obtain ⟨L', h1, rfl⟩ := Option.map_eq_some_iff.1 hb
          exact ⟨rfl, hi, .inr ⟨hs, by omega, blk_ch (by omega) (by omega) h1⟩⟩
        | false => rw [blk_no hi hs hp] at hb; cases hb
    · rw [blk_end hi] at hb
      cases hb
      show (i : Int) = n
      omega
theorem valsL_len {n : Int} {D : List Int} : ∀ {L : List Nat} {i : Nat}, Ch n D i L → ((valsL n D L).length : Int) = 2 * (n - i)
  | [], i, h => by
    have h : (i : Int) = n := h
    simp [valsL]; omega
  | x :: t, i, h => by
    obtain ⟨rfl, h1, ⟨hs, h2⟩ | ⟨hs, h3, h2⟩⟩ := h
    · have := valsL_len h2
      have e : valsL n D (x :: t) = valC n D x ++ valsL n D t := by simp [valsL]
      have e2 : (valC n D x).length = 2 := by simp [valC, hs]
      rw [e, List.length_append, e2]; omega
    · have := valsL_len h2
      have e : valsL n D (x :: t) = valC n D x ++ valsL n D t := by simp [valsL]
      have e2 : (valC n D x).length = 4 := by simp [valC, hs]
      rw [e, List.length_append, e2]; omega
theorem valsF_append {n : Int} {D : List Int} {g : Int} {A B : List Nat} : valsF n D g (A ++ B) = valsF n D (valsF n D g A) B := by simp [valsF, List.foldl_append]
theorem valsL_append {n : Int} {D : List Int} {A B : List Nat} : valsL n D (A ++ B) = valsL n D A ++ valsL n D B := by simp [valsL]

theorem svalues (n : Int) {v : MV} {xs : List Int} {H : MH} (hv : Sl H v xs) (hI : InD xs) (ups a b : Int) (hb : InU b) :
    Spec Try.prog 3 [i64 n, v, u64 ups, i64 a, u64 b] H fun u H' => u = bl true ∧ H' = H := by
  have hlen22 := len22 hv
  have h7 := and7 n
  refine Spec.scalar (enterS Try.func3 [.tmp 10] ?_)
  repeat' first | (with_reducible (show W _ _ _ _ _); with_reducible refine go2 ?_) | (with_reducible (show W _ _ _ _ _); with_reducible refine sg2 ?_ ?_ <;> intro _) | (with_reducible (show W _ _ _ _ _); with_reducible refine sc2 ?_ ?_ <;> intro _) | (with_reducible (show CallK _ _ _ _ _ _ _ _ _ _ _); with_reducible refine ce2 (head19_spec _) ?_) | (with_reducible (show W _ _ (.code (.region 25 _ true) :: _) _ _); with_reducible refine W_draw [(0, []), (1, []), (2, []), (4, []), (5, []), (6, []), (7, []), (9, []), (10, []), (11, []), (12, []), (14, []), (15, []), (16, []), (17, []), (18, []), (25, []), (3, [4, 9, 14, 25]), (8, [9, 14, 25]), (13, [14, 25]), (19, [25]), (20, []), (21, [25]), (22, []), (23, []), (24, []), (26, []), (27, [])] [4, 9, 14, 25] (by kernel_rfl) ?_) | (with_reducible (show W _ _ (.code (.region 27 _ true) :: _) _ _); with_reducible refine W_draw [(0, []), (1, []), (2, []), (3, []), (4, []), (5, []), (6, []), (7, []), (8, []), (9, []), (10, []), (11, []), (12, []), (13, []), (14, []), (15, []), (16, []), (17, []), (18, []), (19, []), (20, []), (21, []), (22, []), (23, [])] [] (by kernel_rfl) ?_) | (with_reducible (show W _ _ (.code (.region 31 _ true) :: _) _ _); with_reducible refine W_draw [(0, []), (1, []), (2, []), (3, []), (4, []), (5, []), (6, []), (7, [3]), (8, []), (9, [])] [3] (by kernel_rfl) ?_)
  · trivial
  rename_i hl100
  generalize bits .and .i64 n 7 = r at h7
  obtain ⟨n0, rfl⟩ := Int.eq_ofNat_of_zero_le h7.1
  have hn7 : n0 ≤ 7 := by omega
  obtain ⟨N, hN⟩ : ∃ N, n0 * n0 = N := ⟨_, rfl⟩
  have h49 : n0 * n0 ≤ 7 * 7 := Nat.mul_le_mul hn7 hn7
  have em : IntKind.i64.wrap ((n0 : Int) * n0) = (N : Int) := by rw [← Int.natCast_mul, wrap_i64 (by omega), hN]
  (with_reducible (show CallK _ _ _ _ _ _ _ _ _ _ _)); with_reducible refine cx2 (upper_spec n0 hn7 hv hI _ hN) ?_
  rintro u' H' ⟨E, ⟨hE, hEI⟩, rfl, rfl⟩
  have hNN : ((n0 : Int) * n0).toNat = N := by rw [← hN]; exact_mod_cast Int.toNat_natCast (n0 * n0)
  have hEl : E.length = N := hE.len.trans hNN
  have f8 : a < N → 0 ≤ a → (a.toNat * 1 + 1 ≤ (List.map u64 E).length) = True := fun h1 h2 => eq_true (by rw [List.length_map, hEl]; omega)
  have f9 : (List.map u64 E).set (a.toNat * 1) (MV.lit (Value.int IntKind.u64 b)) = (E.set a.toNat b).map u64 := by rw [Nat.mul_one, List.map_set]
  repeat' first | (with_reducible (show W _ _ _ _ _); with_reducible refine go2 ?_) | (with_reducible (show W _ _ _ _ _); with_reducible refine sg2 ?_ ?_ <;> intro _) | (with_reducible (show W _ _ _ _ _); with_reducible refine sc2 ?_ ?_ <;> intro _) | (with_reducible (show W _ _ (.code (.region 25 _ true) :: _) _ _); with_reducible refine W_draw [(0, []), (1, []), (2, []), (4, []), (5, []), (6, []), (7, []), (9, []), (10, []), (11, []), (12, []), (14, []), (15, []), (16, []), (17, []), (18, []), (25, []), (3, [4, 9, 14, 25]), (8, [9, 14, 25]), (13, [14, 25]), (19, [25]), (20, []), (21, [25]), (22, []), (23, []), (24, []), (26, []), (27, [])] [4, 9, 14, 25] (by kernel_rfl) ?_) | (with_reducible (show W _ _ (.code (.region 27 _ true) :: _) _ _); with_reducible refine W_draw [(0, []), (1, []), (2, []), (3, []), (4, []), (5, []), (6, []), (7, []), (8, []), (9, []), (10, []), (11, []), (12, []), (13, []), (14, []), (15, []), (16, []), (17, []), (18, []), (19, []), (20, []), (21, []), (22, []), (23, [])] [] (by kernel_rfl) ?_) | (with_reducible (show W _ _ (.code (.region 31 _ true) :: _) _ _); with_reducible refine W_draw [(0, []), (1, []), (2, []), (3, []), (4, []), (5, []), (6, []), (7, [3]), (8, []), (9, [])] [3] (by kernel_rfl) ?_)
  all_goals try (
    have ha0 : 0 ≤ a := by assumption
    have haN : a < (N : Int) := by assumption
    replace hE : MatOk n0 n0 (E.set a.toNat b) := ⟨hE.r0, hE.r1, hE.c0, hE.c1, by rw [List.length_set]; exact hE.len⟩
    replace hEI : InD (E.set a.toNat b) := hEI.set _ hb
    replace hEl : (E.set a.toNat b).length = N := hE.len.trans hNN
    clear f8 f9
    revert hE hEI hEl
    generalize E.set a.toNat b = E
    intro hE hEI hEl)
  all_goals try clear f8 f9
  all_goals
    have hd : ∀ L : MH, hget (H ++ some ⟨E.map u64, true⟩ :: L) H.length = some ⟨E.map u64, true⟩ := fun L => hget_new'
    have hq := fun L => quasi_spec hE hEI hEl (z := N) (hd L)
    have hbs := blocks_some (n := n0) (D := E) hE.r0
    have hB := fun L => blocks_spec hE (by omega) hEl (z := N) (hd L)
    have hV := fun L => values_spec hE (by omega) hEl (z := N) (hd L)
    rw [← hbs] at hq
    unfold valsG valsM at hV
    clear hbs
    cases hbm : blocksM n0 E with
    | none =>
      simp only [hbm, Option.isSome_none, Option.getD_none] at hq hB hV
      have hB2 : ∀ L, Spec Try.prog 10 [mx n0 n0 n0 H.length N N] (H ++ some ⟨E.map u64, true⟩ :: L) fun u H' => ∃ (v : MV) (J : MH), u = .tup [v, bl false] ∧ H' = H ++ some ⟨E.map u64, true⟩ :: L ++ J ∧ lenV Try.prog 29 v = some (i64 0) := fun L => (hB L).mono fun u H' ⟨v, J, h1, h2, h3⟩ => ⟨v, J, h1, h2, by have := h3.len (P := Try.prog) (t := 29) (by rw [ty_29]); simpa using this⟩
      have hV2 : ∀ L, Spec Try.prog 11 [mx n0 n0 n0 H.length N N] (H ++ some ⟨E.map u64, true⟩ :: L) fun u H' => ∃ (v : MV) (J : MH), u = .tup [v, u8 0, i64 4] ∧ H' = H ++ some ⟨E.map u64, true⟩ :: L ++ J ∧ lenV Try.prog 32 v = some (i64 0) := fun L => (hV L).mono fun u H' ⟨v, J, h1, h2, h3⟩ => ⟨v, J, h1, h2, by have := h3.len (P := Try.prog) (t := 32) (by rw [ty_32]); simpa [valsL] using this⟩
      clear hB hV
      repeat' first | (with_reducible (show W _ _ _ _ _); with_reducible refine go2 ?_) | (with_reducible (show W _ _ _ _ _); with_reducible refine sg2 ?_ ?_ <;> intro _) | (with_reducible (show W _ _ _ _ _); with_reducible refine sc2 ?_ ?_ <;> intro _) | (with_reducible (show CallK _ _ _ _ _ _ _ _ _ _ _); with_reducible refine ce2 (hq _) ?_) | (with_reducible (show W _ _ (.code (.region 25 _ true) :: _) _ _); with_reducible refine W_draw [(0, []), (1, []), (2, []), (4, []), (5, []), (6, []), (7, []), (9, []), (10, []), (11, []), (12, []), (14, []), (15, []), (16, []), (17, []), (18, []), (25, []), (3, [4, 9, 14, 25]), (8, [9, 14, 25]), (13, [14, 25]), (19, [25]), (20, []), (21, [25]), (22, []), (23, []), (24, []), (26, []), (27, [])] [4, 9, 14, 25] (by kernel_rfl) ?_) | (with_reducible (show W _ _ (.code (.region 27 _ true) :: _) _ _); with_reducible refine W_draw [(0, []), (1, []), (2, []), (3, []), (4, []), (5, []), (6, []), (7, []), (8, []), (9, []), (10, []), (11, []), (12, []), (13, []), (14, []), (15, []), (16, []), (17, []), (18, []), (19, []), (20, []), (21, []), (22, []), (23, [])] [] (by kernel_rfl) ?_) | (with_reducible (show W _ _ (.code (.region 31 _ true) :: _) _ _); with_reducible refine W_draw [(0, []), (1, []), (2, []), (3, []), (4, []), (5, []), (6, []), (7, [3]), (8, []), (9, [])] [3] (by kernel_rfl) ?_) | ((with_reducible (show CallK _ _ _ _ _ _ _ _ _ _ _); with_reducible refine cx2 (hB2 _) ?_; rintro u' H' ⟨bv, J, rfl, rfl, hbv⟩)) | ((with_reducible (show CallK _ _ _ _ _ _ _ _ _ _ _); with_reducible refine cx2 (hV2 _) ?_; rintro u' H' ⟨vv, J2, rfl, rfl, hvv⟩))
      all_goals first
        | trivial
        | (rename_i aa; exact absurd (by decide) aa)
    | some L =>
      simp only [hbm, Option.isSome_some, Option.getD_some, if_true] at hq hB hV
      have hblk : blk n0 E n0 0 = some L := by
        unfold blocksM at hbm
        split at hbm
        · exact hbm
        · cases hbm
      have hLl := blk_len hblk
      have hch : Ch n0 E 0 L := blk_ch (by omega) (by omega) hblk
      have hvl : (valsL n0 E L).length = 2 * n0 := by have := valsL_len hch; omega
      have hvl2 : (valsL n0 E L).length / 2 = n0 := by omega
      rw [hvl2] at hV
      have hB2 : ∀ X, Spec Try.prog 10 [mx n0 n0 n0 H.length N N] (H ++ some ⟨E.map u64, true⟩ :: X) fun u H' => ∃ (v : MV) (J : MH), u = .tup [v, bl true] ∧ H' = H ++ some ⟨E.map u64, true⟩ :: X ++ J ∧ lenV Try.prog 29 v = some (i64 (L.length : Int)) ∧ Ls H (H ++ some ⟨E.map u64, true⟩ :: X ++ J) 1 (ints L) L.length v := fun X => (hB X).mono fun u H' ⟨v, J, h1, h2, h3⟩ => ⟨v, J, h1, h2, h3.len (P := Try.prog) (t := 29) (by rw [ty_29]), h3.less⟩
      have hV2 : ∀ X, Spec Try.prog 11 [mx n0 n0 n0 H.length N N] (H ++ some ⟨E.map u64, true⟩ :: X) fun u H' => ∃ (v : MV) (J : MH), u = .tup [v, u8 (valsF n0 E 0 L), i64 0] ∧ H' = H ++ some ⟨E.map u64, true⟩ :: X ++ J ∧ lenV Try.prog 32 v = some (i64 (n0 : Int)) ∧ Ls H (H ++ some ⟨E.map u64, true⟩ :: X ++ J) 2 ((valsL n0 E L).map u64) n0 v := fun X => (hV X).mono fun u H' ⟨v, J, h1, h2, h3⟩ => ⟨v, J, h1, h2, h3.len (P := Try.prog) (t := 32) (by rw [ty_32]), h3.less⟩
      clear hB hV hblk hbm hvl2
      repeat' first | (with_reducible (show W _ _ _ _ _); with_reducible refine go2 ?_) | (with_reducible (show W _ _ _ _ _); with_reducible refine sg2 ?_ ?_ <;> intro _) | (with_reducible (show W _ _ _ _ _); with_reducible refine sc2 ?_ ?_ <;> intro _) | (with_reducible (show CallK _ _ _ _ _ _ _ _ _ _ _); with_reducible refine ce2 (hq _) ?_) | (with_reducible (show W _ _ (.code (.region 25 _ true) :: _) _ _); with_reducible refine W_draw [(0, []), (1, []), (2, []), (4, []), (5, []), (6, []), (7, []), (9, []), (10, []), (11, []), (12, []), (14, []), (15, []), (16, []), (17, []), (18, []), (25, []), (3, [4, 9, 14, 25]), (8, [9, 14, 25]), (13, [14, 25]), (19, [25]), (20, []), (21, [25]), (22, []), (23, []), (24, []), (26, []), (27, [])] [4, 9, 14, 25] (by kernel_rfl) ?_) | (with_reducible (show W _ _ (.code (.region 27 _ true) :: _) _ _); with_reducible refine W_draw [(0, []), (1, []), (2, []), (3, []), (4, []), (5, []), (6, []), (7, []), (8, []), (9, []), (10, []), (11, []), (12, []), (13, []), (14, []), (15, []), (16, []), (17, []), (18, []), (19, []), (20, []), (21, []), (22, []), (23, [])] [] (by kernel_rfl) ?_) | (with_reducible (show W _ _ (.code (.region 31 _ true) :: _) _ _); with_reducible refine W_draw [(0, []), (1, []), (2, []), (3, []), (4, []), (5, []), (6, []), (7, [3]), (8, []), (9, [])] [3] (by kernel_rfl) ?_) | ((with_reducible (show CallK _ _ _ _ _ _ _ _ _ _ _); with_reducible refine cx2 (hB2 _) ?_; rintro u' H' ⟨bv, J, rfl, rfl, hbv, hbl⟩)) | ((with_reducible (show CallK _ _ _ _ _ _ _ _ _ _ _); with_reducible refine cx2 (hV2 _) ?_; rintro u' H' ⟨vv, J2, rfl, rfl, hvv, hvls⟩))
      all_goals first
        | (rename_i aa; exact absurd (by decide) aa)
        | skip
      replace hbl : Ls H (H ++ some ⟨E.map u64, true⟩ :: some ⟨[i64 n0, i64 n0, i64 n0, .slice H.length 0 N N 1], true⟩ :: (J ++ J2)) 1 (ints L) L.length bv := by have := hbl.app J2; simpa using this
      replace hvls : Ls H (H ++ some ⟨E.map u64, true⟩ :: some ⟨[i64 n0, i64 n0, i64 n0, .slice H.length 0 N N 1], true⟩ :: (J ++ J2)) 2 ((valsL n0 E L).map u64) n0 vv := by simpa using hvls
      have hB1 : hget (H ++ some ⟨E.map u64, true⟩ :: some ⟨[i64 n0, i64 n0, i64 n0, .slice H.length 0 N N 1], true⟩ :: (J ++ J2)) (H.length + 1) = some ⟨[i64 n0, i64 n0, i64 n0, .slice H.length 0 N N 1], true⟩ := hget_newL rfl
      have hB2 := hd (some ⟨[i64 n0, i64 n0, i64 n0, .slice H.length 0 N N 1], true⟩ :: (J ++ J2))
      have hB4 : ∀ C, Olds (H ++ some ⟨E.map u64, true⟩ :: some ⟨[i64 n0, i64 n0, i64 n0, .slice H.length 0 N N 1], true⟩ :: (J ++ J2)) C → Olds H C := fun C h => h.less
      generalize (H ++ some ⟨E.map u64, true⟩ :: some ⟨[i64 n0, i64 n0, i64 n0, .slice H.length 0 N N 1], true⟩ :: (J ++ J2)) = B at hB1 hB2 hB4 hbl hvls ⊢
      replace hB4 : Hid2 (∀ C, Olds B C → Olds H C) := hB4
      clear hd hq hV2
      refine W_for (fun j ρ C => ∃ (k i : Nat), k + j = L.length ∧ Ch n0 E i (L.drop k) ∧ ρ 0 = i64 n0 ∧ ρ 11 = .ptr (H.length + 1) 0 ∧ ρ 15 = vv ∧ ρ 16 = u8 (valsF n0 E 0 L) ∧ ρ 18 = i64 i ∧ ρ 19 = i64 i ∧ ρ 20 = u8 (valsF n0 E 0 (L.take k)) ∧ ρ 94 = bv ∧ ρ 95 = i64 (L.length : Int) ∧ ρ 96 = i64 k ∧ Olds B C) L.length ?_ ?_
      · exact ⟨0, 0, by omega, hch, rfl, rfl, rfl, rfl, rfl, rfl, rfl, rfl, rfl, rfl, Olds.refl _⟩
      rintro j ρ C ⟨k, i, hk, hci, h0, h11, h15, h16, h18, h19, h20, h94, h95, h96, hC⟩
      have hBm := hC.get hB1
      have hpC := hC.get hB2
      have hbC := hbl.old hC
      have hvC := hvls.old hC
      have hl1 := lt_of_hget hBm
      by_cases hkl : k < L.length
      · have hsp : L = L.take k ++ L[k] :: L.drop (k + 1) := by rw [← List.drop_eq_getElem_cons hkl, List.take_append_drop]
        have hia := hbC.ia hkl 8 (some [.int .i64 0]) true .i64
        have hld := hbC.ld (P := Try.prog) (t := 3) (by rw [ty_3]) (by rw [ty_3]) hkl (x := i64 ((L[k] : Nat) : Int)) (by simp [hkl])
        have htk := take_snoc hkl
        rw [List.drop_eq_getElem_cons hkl] at hci
        obtain ⟨hci1, hci2, hci3⟩ := hci
        generalize L[k] = x at hld htk hci1 hsp
        subst hci1
        have hval : valsL n0 E L = valsL n0 E (L.take k) ++ (valC n0 E x ++ valsL n0 E (L.drop (k + 1))) := by
          conv => lhs; rw [hsp]
          rw [valsL_append]; simp [valsL]
        have hcell : ∀ q, ((valsL n0 E L).map u64)[x * 2 + q]? = ((valC n0 E x ++ valsL n0 E (L.drop (k + 1))).map u64)[q]? := by
          intro q
          have h2 : (valsL n0 E (L.take k)).length = x * 2 := by
            have h3 : (valC n0 E x ++ valsL n0 E (L.drop (k + 1))).length = 2 * n0 - 2 * x := by
              rcases hci3 with ⟨hs, hc⟩ | ⟨hs, hn, hc⟩
              · have := valsL_len hc
                have e2 : (valC n0 E x).length = 2 := by simp [valC, hs]
                rw [List.length_append, e2]; omega
              · have := valsL_len hc
                have e2 : (valC n0 E x).length = 4 := by simp [valC, hs]
                rw [List.length_append, e2]; omega
            have := congrArg List.length hval
            rw [hvl, List.length_append, h3] at this
            omega
          rw [hval, List.map_append, List.getElem?_append_right (by rw [List.length_map]; omega), List.length_map, h2]
          congr 1; omega
        have z2 : ((2 : Nat) : Int) = 2 := _root_.id rfl
        have hkl2 : ((k : Int) < (L.length : Int)) = True := eq_true (by omega)
        have hxn : ((n0 : Int) ≤ (x : Int)) = False := eq_false (by omega)
        have e1 : IntKind.i64.wrap ((x : Int) + 1) = ((x + 1 : Nat) : Int) := by rw [wrap_i64 (by omega)]; omega
        have e2 : IntKind.i64.wrap ((x : Int) + 2) = ((x + 2 : Nat) : Int) := by rw [wrap_i64 (by omega)]; omega
        have ek : IntKind.i64.wrap ((k : Int) + 1) = ((k + 1 : Nat) : Int) := by rw [wrap_i64 (by omega)]; omega
        have hia2 := hvC.ia (j := x) (by omega) 16 (some [.int .u64 0, .int .u64 0]) false .i64
        rcases hci3 with ⟨hs, hc⟩ | ⟨hs, hn, hc⟩
        · have hld2 := hvC.ld2 (P := Try.prog) (t := 40) (by rw [ty_40]) (by rw [ty_40]) (by rw [ty_40]) (j := x) (by omega) (x := u64 (atM n0 n0 n0 E x x)) (y := u64 0) (by rw [show x * 2 = x * 2 + 0 from rfl, hcell]; simp [valC, hs]) (by rw [hcell]; simp [valC, hs])
          clear hcell hval hsp
          have hnx : ((x + 1 : Nat) : Int) < n0 → absM (atM n0 n0 n0 E ((x + 1 : Nat) : Int) x) = 0 := fun h => by
            unfold stB at hs
            simp only [Bool.or_eq_true, decide_eq_true_eq] at hs
            rcases hs with hs | hs
            · omega
            · exact (kind_zero (atM_in hEI _ _ _ _ _)).1 hs
          by_cases hlt : ((x + 1 : Nat) : Int) < n0
          · have hnx2 := hnx hlt
            clear hnx
            repeat' first | (with_reducible (show W _ _ _ _ _); with_reducible refine go2 ?_) | (with_reducible (show W _ _ _ _ _); with_reducible refine sg2 ?_ ?_ <;> intro _) | (with_reducible (show W _ _ _ _ _); with_reducible refine sc2 ?_ ?_ <;> intro _) | (with_reducible (show CallK _ _ _ _ _ _ _ _ _ _ _); with_reducible refine ce2 (at_ok hE _ _ hpC hEl) ?_) | (with_reducible (show CallK _ _ _ _ _ _ _ _ _ _ _); with_reducible refine ce2 (abs_spec _ _) ?_) | (with_reducible (show W _ _ (.code (.region 25 _ true) :: _) _ _); with_reducible refine W_draw [(0, []), (1, []), (2, []), (4, []), (5, []), (6, []), (7, []), (9, []), (10, []), (11, []), (12, []), (14, []), (15, []), (16, []), (17, []), (18, []), (25, []), (3, [4, 9, 14, 25]), (8, [9, 14, 25]), (13, [14, 25]), (19, [25]), (20, []), (21, [25]), (22, []), (23, []), (24, []), (26, []), (27, [])] [4, 9, 14, 25] (by kernel_rfl) ?_) | (with_reducible (show W _ _ (.code (.region 27 _ true) :: _) _ _); with_reducible refine W_draw [(0, []), (1, []), (2, []), (3, []), (4, []), (5, []), (6, []), (7, []), (8, []), (9, []), (10, []), (11, []), (12, []), (13, []), (14, []), (15, []), (16, []), (17, []), (18, []), (19, []), (20, []), (21, []), (22, []), (23, [])] [] (by kernel_rfl) ?_) | (with_reducible (show W _ _ (.code (.region 31 _ true) :: _) _ _); with_reducible refine W_draw [(0, []), (1, []), (2, []), (3, []), (4, []), (5, []), (6, []), (7, [3]), (8, []), (9, [])] [3] (by kernel_rfl) ?_)
            exact ⟨j - 1, by omega, k + 1, x + 1, by omega, hc, rfl, rfl, by rw [htk, valsF_st hs], rfl⟩
          · clear hnx
            repeat' first | (with_reducible (show W _ _ _ _ _); with_reducible refine go2 ?_) | (with_reducible (show W _ _ _ _ _); with_reducible refine sg2 ?_ ?_ <;> intro _) | (with_reducible (show W _ _ _ _ _); with_reducible refine sc2 ?_ ?_ <;> intro _) | (with_reducible (show CallK _ _ _ _ _ _ _ _ _ _ _); with_reducible refine ce2 (at_ok hE _ _ hpC hEl) ?_) | (with_reducible (show CallK _ _ _ _ _ _ _ _ _ _ _); with_reducible refine ce2 (abs_spec _ _) ?_) | (with_reducible (show W _ _ (.code (.region 25 _ true) :: _) _ _); with_reducible refine W_draw [(0, []), (1, []), (2, []), (4, []), (5, []), (6, []), (7, []), (9, []), (10, []), (11, []), (12, []), (14, []), (15, []), (16, []), (17, []), (18, []), (25, []), (3, [4, 9, 14, 25]), (8, [9, 14, 25]), (13, [14, 25]), (19, [25]), (20, []), (21, [25]), (22, []), (23, []), (24, []), (26, []), (27, [])] [4, 9, 14, 25] (by kernel_rfl) ?_) | (with_reducible (show W _ _ (.code (.region 27 _ true) :: _) _ _); with_reducible refine W_draw [(0, []), (1, []), (2, []), (3, []), (4, []), (5, []), (6, []), (7, []), (8, []), (9, []), (10, []), (11, []), (12, []), (13, []), (14, []), (15, []), (16, []), (17, []), (18, []), (19, []), (20, []), (21, []), (22, []), (23, [])] [] (by kernel_rfl) ?_) | (with_reducible (show W _ _ (.code (.region 31 _ true) :: _) _ _); with_reducible refine W_draw [(0, []), (1, []), (2, []), (3, []), (4, []), (5, []), (6, []), (7, [3]), (8, []), (9, [])] [3] (by kernel_rfl) ?_)
            exact ⟨j - 1, by omega, k + 1, x + 1, by omega, hc, rfl, rfl, by rw [htk, valsF_st hs], rfl⟩
        · have hcA : ∀ q, q < 4 → ((valsL n0 E L).map u64)[x * 2 + q]? = [u64 (bvD n0 E x).1.1, u64 (bvD n0 E x).1.2.1, u64 (bvD n0 E x).1.2.2.1, u64 (bvD n0 E x).1.2.2.2][q]? := fun q hq => by
            rw [hcell]
            have e : (valC n0 E x ++ valsL n0 E (L.drop (k + 1))).map u64 = [u64 (bvD n0 E x).1.1, u64 (bvD n0 E x).1.2.1, u64 (bvD n0 E x).1.2.2.1, u64 (bvD n0 E x).1.2.2.2] ++ (valsL n0 E (L.drop (k + 1))).map u64 := by simp [valC, hs]
            rw [e, List.getElem?_append_left (by simpa using hq)]
          clear hcell hval hsp
          have hia3 := hvC.ia (j := x + 1) (by omega) 16 (some [.int .u64 0, .int .u64 0]) false .i64
          have hap : ∀ X, hget (C ++ X) H.length = some ⟨E.map u64, true⟩ := fun X => hget_appL hpC
          have hx1 : ((n0 : Int) ≤ ((x + 1 : Nat) : Int)) = False := eq_false (by omega)
          have hld4 : ∀ X, loadV Try.prog 40 (ixz vv x 2) (C ++ X) = some (.agg [u64 (bvD n0 E x).1.1, u64 (bvD n0 E x).1.2.1]) := fun X => (hvC.app X).ld2 (P := Try.prog) (t := 40) (by rw [ty_40]) (by rw [ty_40]) (by rw [ty_40]) (j := x) (by omega) (hcA 0 (by decide)) (hcA 1 (by decide))
          have hld5 : ∀ X, loadV Try.prog 40 (ixz vv (x + 1) 2) (C ++ X) = some (.agg [u64 (bvD n0 E x).1.2.2.1, u64 (bvD n0 E x).1.2.2.2]) := fun X => (hvC.app X).ld2 (P := Try.prog) (t := 40) (by rw [ty_40]) (by rw [ty_40]) (by rw [ty_40]) (j := x + 1) (by omega) (by have := hcA 2 (by decide); rwa [show (x + 1) * 2 = x * 2 + 2 by omega]) (by have := hcA 3 (by decide); rwa [show (x + 1) * 2 + 1 = x * 2 + 3 by omega])
          clear hcA
          have hne : ¬ absM (atM n0 n0 n0 E ((x + 1 : Nat) : Int) x) = 0 := fun h0 => by
            unfold stB at hs
            simp only [Bool.or_eq_false_iff, decide_eq_false_iff_not] at hs
            exact hs.2 ((kind_zero (atM_in hEI _ _ _ _ _)).2 h0)
          repeat' first | (with_reducible (show W _ _ _ _ _); with_reducible refine go2 ?_) | (with_reducible (show W _ _ _ _ _); with_reducible refine sg2 ?_ ?_ <;> intro _) | (with_reducible (show W _ _ _ _ _); with_reducible refine sc2 ?_ ?_ <;> intro _) | (with_reducible (show CallK _ _ _ _ _ _ _ _ _ _ _); with_reducible refine ce2 (at_ok hE _ _ hpC hEl) ?_) | (with_reducible (show CallK _ _ _ _ _ _ _ _ _ _ _); with_reducible refine ce2 (at_ok hE _ _ (hap _) hEl) ?_) | (with_reducible (show CallK _ _ _ _ _ _ _ _ _ _ _); with_reducible refine ce2 (abs_spec _ _) ?_) | (with_reducible (show CallK _ _ _ _ _ _ _ _ _ _ _); with_reducible refine ce2 (bv_spec _ _ _ _ _) ?_) | (with_reducible (show W _ _ (.code (.region 25 _ true) :: _) _ _); with_reducible refine W_draw [(0, []), (1, []), (2, []), (4, []), (5, []), (6, []), (7, []), (9, []), (10, []), (11, []), (12, []), (14, []), (15, []), (16, []), (17, []), (18, []), (25, []), (3, [4, 9, 14, 25]), (8, [9, 14, 25]), (13, [14, 25]), (19, [25]), (20, []), (21, [25]), (22, []), (23, []), (24, []), (26, []), (27, [])] [4, 9, 14, 25] (by kernel_rfl) ?_) | (with_reducible (show W _ _ (.code (.region 27 _ true) :: _) _ _); with_reducible refine W_draw [(0, []), (1, []), (2, []), (3, []), (4, []), (5, []), (6, []), (7, []), (8, []), (9, []), (10, []), (11, []), (12, []), (13, []), (14, []), (15, []), (16, []), (17, []), (18, []), (19, []), (20, []), (21, []), (22, []), (23, [])] [] (by kernel_rfl) ?_) | (with_reducible (show W _ _ (.code (.region 31 _ true) :: _) _ _); with_reducible refine W_draw [(0, []), (1, []), (2, []), (3, []), (4, []), (5, []), (6, []), (7, [3]), (8, []), (9, [])] [3] (by kernel_rfl) ?_)
          all_goals first
            | exact ⟨j - 1, by omega, k + 1, x + 2, by omega, hc, rfl, rfl, by rw [htk, valsF_no hs]; rfl, rfl, hC.app _⟩
            | (exfalso; rename_i aa; simp [bvD] at aa; done)
      · have hkl2 : ((k : Int) < (L.length : Int)) = False := eq_false (by omega)
        have hkk : L.take k = L := List.take_of_length_le (by omega)
        rw [hkk] at h20
        rw [List.drop_of_length_le (by omega)] at hci
        have hci : (i : Int) = n0 := hci
        repeat' first | (with_reducible (show W _ _ _ _ _); with_reducible refine go2 ?_) | (with_reducible (show W _ _ _ _ _); with_reducible refine sg2 ?_ ?_ <;> intro _) | (with_reducible (show W _ _ _ _ _); with_reducible refine sc2 ?_ ?_ <;> intro _) | (with_reducible (show W _ _ (.code (.region 25 _ true) :: _) _ _); with_reducible refine W_draw [(0, []), (1, []), (2, []), (4, []), (5, []), (6, []), (7, []), (9, []), (10, []), (11, []), (12, []), (14, []), (15, []), (16, []), (17, []), (18, []), (25, []), (3, [4, 9, 14, 25]), (8, [9, 14, 25]), (13, [14, 25]), (19, [25]), (20, []), (21, [25]), (22, []), (23, []), (24, []), (26, []), (27, [])] [4, 9, 14, 25] (by kernel_rfl) ?_) | (with_reducible (show W _ _ (.code (.region 27 _ true) :: _) _ _); with_reducible refine W_draw [(0, []), (1, []), (2, []), (3, []), (4, []), (5, []), (6, []), (7, []), (8, []), (9, []), (10, []), (11, []), (12, []), (13, []), (14, []), (15, []), (16, []), (17, []), (18, []), (19, []), (20, []), (21, []), (22, []), (23, [])] [] (by kernel_rfl) ?_) | (with_reducible (show W _ _ (.code (.region 31 _ true) :: _) _ _); with_reducible refine W_draw [(0, []), (1, []), (2, []), (3, []), (4, []), (5, []), (6, []), (7, [3]), (8, []), (9, [])] [3] (by kernel_rfl) ?_)
        all_goals exact (hB4 _ hC).junk
end Go.Proofs.Ytamoljalficfgaa.M
