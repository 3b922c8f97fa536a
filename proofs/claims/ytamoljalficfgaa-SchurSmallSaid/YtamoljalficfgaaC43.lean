/- schur.Values: a quasi-triangular matrix's eigenvalues. -/
import Derived.Test.YtamoljalficfgaaC42
set_option linter.unusedSimpArgs false
set_option linter.unusedVariables false
set_option pp.deepTerms false
set_option pp.maxSteps 1500
set_option maxRecDepth 10000
set_option maxHeartbeats 8000000
namespace Go.Proofs.Ytamoljalficfgaa.M
open Go Go.Proofs

/-- Where a list's element lies. -/
def ixz (v : MV) (j z : Nat) : MV := match v with
  | .slice p o _ _ _ => .ptr p (o + j * z)
  | _ => default
theorem Ls.ia {H C : MH} {z : Nat} {cs : List MV} {m : Nat} {v : MV} (h : Ls H C z cs m v) {j : Nat} (hj : j < m) (e : Nat) (zs : Option (List Value)) (b : Bool) (k : IntKind) : iaV (.slice z e zs b) v (.lit (.int k j)) = some (ixz v j z) := by
  rcases h.2 with ⟨rfl, rfl⟩ | ⟨px, c, rfl, hc, hp, hl⟩
  · omega
  · rw [iaV_slice, if_pos ⟨by omega, by omega⟩]
    simp [ixz]
theorem Ls.ld {H C : MH} {cs : List MV} {m : Nat} {v : MV} (h : Ls H C 1 cs m v) {P : Program} {t : TypeId} (hk : (ty P t).known = true) (ha : (ty P t).agg = false) {j : Nat} (hj : j < m) {x : MV} (hx : cs[j]? = some x) : loadV P t (ixz v j 1) C = some x := by
  rcases h.2 with ⟨rfl, rfl⟩ | ⟨px, c, rfl, hc, hp, hl⟩
  · omega
  · simp only [ixz, loadV, hk, ha, if_true, Bool.false_eq_true, if_false, hp, Option.bind_some, Nat.mul_one, Nat.zero_add]
    exact hx
theorem Ls.ld2 {H C : MH} {cs : List MV} {m : Nat} {v : MV} (h : Ls H C 2 cs m v) {P : Program} {t : TypeId} (hk : (ty P t).known = true) (ha : (ty P t).agg = true) (hs : (ty P t).sz = some 2) {j : Nat} (hj : j < m) {x y : MV} (hx : cs[j * 2]? = some x) (hy : cs[j * 2 + 1]? = some y) : loadV P t (ixz v j 2) C = some (.agg [x, y]) := by
  have hlen := h.1
  rcases h.2 with ⟨rfl, rfl⟩ | ⟨px, c, rfl, hc, hp, hl⟩
  · omega
  · simp only [ixz, loadV, hk, ha, hs, if_true, cellsAt_eq, hp, Nat.zero_add]
    have h1 : j * 2 < cs.length := by omega
    have h2 : j * 2 + 1 < cs.length := by omega
    rw [List.getElem?_eq_getElem h1] at hx
    rw [List.getElem?_eq_getElem h2] at hy
    cases hx
    cases hy
    have e : (cs.drop (j * 2)).take 2 = [cs[j * 2], cs[j * 2 + 1]] := by
      rw [List.drop_eq_getElem_cons h1, List.drop_eq_getElem_cons h2]
      rfl
    simp [e, show j * 2 + 2 ≤ cs.length by omega]
theorem Ls.old {H C C' : MH} {z : Nat} {cs : List MV} {m : Nat} {v : MV} (h : Ls H C z cs m v) (hC : Olds C C') : Ls H C' z cs m v := by
  refine ⟨h.1, ?_⟩
  rcases h.2 with h | ⟨px, c, h1, h2, h3, h4⟩
  · exact .inl h
  · exact .inr ⟨px, c, h1, h2, hC.get h3, h4⟩

theorem app_ls2 {P : Program} {Q : MQ} {H C : MH} (hC : Olds H C) {z : Nat} {cs : List MV} {m : Nat} {v : MV} (hx : Ls H C z cs m v) (hm : m ≤ 10000000) {t : TypeId} {eb : Nat} {zs : List Value} {b : Bool} (ht : (ty P t).k = .slice z eb (some zs) b)
    (hz : 0 < z ∧ 0 < eb ∧ zs.length = z ∧ eb ≤ 2 ^ 10) {new : List MV} {k0 : Nat} (hk0 : 0 < k0 ∧ k0 ≤ 1000) (hnew : new.length = k0 * z) (hone : new.all one = true) {c1 n0 n1 : Nat} {C2 : MH} {a : Option MO} (hC2 : C2 = C ++ [a, some ⟨new, true⟩]) (hn0 : n0 = C.length + 1) (hn1 : n1 = C.length + 2)
    {d L l F k ρ} (h : ∀ v' C', Olds H C' → Ls H C' z (cs ++ new) (m + k0) v' → held P L C' F ∧ W P Q (.run l F :: k) (put ρ d v') C') :
    AppK P Q (appV P #[t, t] v (.slice n0 0 k0 c1 z) C2) n1 d L l F k ρ :=
  app_ls (hC.app [a]) (hx.app [a]) hm ht hz hk0 hnew hone (by simp [hn0]) (by simp [hn1]) (by simp [hC2]) h
theorem blk_lt {n : Int} {D : List Int} : ∀ {f i : Nat} {L : List Nat}, blk n D f i = some L → ∀ x ∈ L, (x : Int) < n
  | 0, i, L, h, x, hx => by cases h; cases hx
  | f + 1, i, L, h, x, hx => by
    unfold blk at h
    split at h
    · rename_i hi
      split at h
      · obtain ⟨L', h1, rfl⟩ := Option.map_eq_some_iff.1 h
        rcases List.mem_cons.1 hx with rfl | hx
        · exact hi
        · exact blk_lt h1 x hx
      · split at h
        · obtain ⟨L', h1, rfl⟩ := Option.map_eq_some_iff.1 h
          rcases List.mem_cons.1 hx with rfl | hx
          · exact hi
          · exact blk_lt h1 x hx
        · cases h
    · cases h; cases hx
theorem blk_len {n : Int} {D : List Int} : ∀ {f i : Nat} {L : List Nat}, blk n D f i = some L → L.length ≤ f
  | 0, i, L, h => by cases h; exact Nat.le_refl _
  | f + 1, i, L, h => by
    unfold blk at h
    split at h
    · split at h
      · obtain ⟨L', h1, rfl⟩ := Option.map_eq_some_iff.1 h
        have := blk_len h1; simp; exact this
      · split at h
        · obtain ⟨L', h1, rfl⟩ := Option.map_eq_some_iff.1 h
          have := blk_len h1; simp; exact this
        · cases h
    · cases h; exact Nat.zero_le _

def bvD (n : Int) (D : List Int) (i : Nat) : (Int × Int × Int × Int) × Int := bvM (atM n n n D i i) (atM n n n D i ((i + 1 : Nat) : Int)) (atM n n n D ((i + 1 : Nat) : Int) i) (atM n n n D ((i + 1 : Nat) : Int) ((i + 1 : Nat) : Int))
def valC (n : Int) (D : List Int) (i : Nat) : List Int := if stB n D i = true then [atM n n n D i i, 0] else [(bvD n D i).1.1, (bvD n D i).1.2.1, (bvD n D i).1.2.2.1, (bvD n D i).1.2.2.2]
def valsL (n : Int) (D : List Int) (L : List Nat) : List Int := L.flatMap (valC n D)
def valsF (n : Int) (D : List Int) (g : Int) (L : List Nat) : Int := L.foldl (fun g i => if stB n D i = true then g else bits .or .u8 g (bvD n D i).2) g
noncomputable def valsM (n : Int) (D : List Int) : List Int := valsL n D ((blocksM n D).getD [])
noncomputable def valsG (n : Int) (D : List Int) : Int := valsF n D 0 ((blocksM n D).getD [])
theorem valsL_st {n : Int} {D : List Int} {L : List Nat} {x : Nat} (h : stB n D x = true) : valsL n D (L ++ [x]) = valsL n D L ++ [atM n n n D x x, 0] := by simp [valsL, valC, h]
theorem valsL_no {n : Int} {D : List Int} {L : List Nat} {x : Nat} (h : stB n D x = false) : valsL n D (L ++ [x]) = valsL n D L ++ [(bvD n D x).1.1, (bvD n D x).1.2.1, (bvD n D x).1.2.2.1, (bvD n D x).1.2.2.2] := by simp [valsL, valC, h]
theorem valsF_st {n : Int} {D : List Int} {L : List Nat} {x : Nat} {g : Int} (h : stB n D x = true) : valsF n D g (L ++ [x]) = valsF n D g L := by simp [valsF, List.foldl_append, h]
theorem valsF_no {n : Int} {D : List Int} {L : List Nat} {x : Nat} {g : Int} (h : stB n D x = false) : valsF n D g (L ++ [x]) = bits .or .u8 (valsF n D g L) (bvD n D x).2 := by simp [valsF, List.foldl_append, h]
theorem take_snoc {α : Type} {L : List α} {k : Nat} (hk : k < L.length) : L.take (k + 1) = L.take k ++ [L[k]] := List.take_succ_eq_append_getElem hk

theorem values_spec {n : Int} {p z : Nat} {D : List Int} (h : MatOk n n D) (hn8 : n ≤ 100) {N : Nat} (hN : D.length = N) {H : MH} {rw : Bool} (hp : hget H p = some ⟨D.map u64, rw⟩) :
    Spec Try.prog 11 [mx n n n p N z] H fun u H' => ∃ (v : MV) (J : MH), u = .tup [v, u8 (valsG n D), i64 (if (blocksM n D).isSome = true then 0 else 4)] ∧ H' = H ++ J ∧ Ls H (H ++ J) 2 ((valsM n D).map u64) ((valsM n D).length / 2) v := by
  have hpl := lt_of_hget hp
  have hn0 := h.r0
  have hsp := Spec.lst (P := Try.prog) (f := 11) (args := [mx n n n p N z]) (H := H) (G := fun _ : Unit => True) (r := fun _ v => .tup [v, u8 (valsG n D), i64 (if (blocksM n D).isSome = true then 0 else 4)]) (cs := fun _ => (valsM n D).map u64) (m := fun _ => (valsM n D).length / 2) (z := 2)
    (fun _ => closed_u64 _) (fun n ps t v hv => by simp [Cl, Cls', hv]) (fun π t v => by simp [ren, rens]) ?_
  · refine Spec.mono hsp ?_
    rintro u H' ⟨_, v, J, _, h1, h2, h3⟩
    exact ⟨v, J, h1, h2, h3⟩
  have hblocks := fun L => blocks_spec h hn8 hN (z := z) (hget_appL (L := L) hp)
  have hlt : ∀ x ∈ (blocksM n D).getD [], (x : Int) < n := by
    intro x hx
    unfold blocksM at hx
    split at hx
    · cases hb : blk n D n.toNat 0 with
      | none => rw [hb] at hx; cases hx
      | some L => rw [hb] at hx; exact blk_lt hb x hx
    · cases hx
  have hlen : ((blocksM n D).getD []).length ≤ 100 := by
    unfold blocksM
    split
    · cases hb : blk n D n.toNat 0 with
      | none => simp
      | some L => have := blk_len hb; simp; omega
    · simp
  unfold valsG valsM
  generalize blocksM n D = bm at hblocks hlt hlen
  refine enterS Try.func11 [.tmp 2, .tmp 3, .tmp 4] ?_
  repeat' first | (with_reducible (show W _ _ _ _ _); with_reducible refine go2 ?_) | (with_reducible (show W _ _ _ _ _); with_reducible refine sg2 ?_ ?_ <;> intro _) | (with_reducible (show W _ _ _ _ _); with_reducible refine sc2 ?_ ?_ <;> intro _) | (with_reducible (show W _ _ (.code (.region 11 _ true) :: _) _ _); with_reducible refine W_draw [(0, []), (1, []), (2, []), (4, []), (5, []), (6, []), (7, []), (9, []), (10, []), (11, []), (12, []), (14, []), (15, []), (16, []), (17, []), (18, []), (25, []), (3, [4, 9, 14, 25]), (8, [9, 14, 25]), (13, [14, 25]), (19, [25]), (20, []), (21, [25]), (22, []), (23, []), (24, []), (26, []), (27, [])] [4, 9, 14, 25] (by kernel_rfl) ?_) | ((with_reducible (show CallK _ _ _ _ _ _ _ _ _ _ _); with_reducible refine cx2 (hblocks _) ?_; rintro u' H' ⟨v, J, rfl, rfl, hv⟩))
  · rename_i hno
    have : bm = none := by simpa using hno
    subst this
    exact ⟨(), nils, rfl, by simpa [valsL] using Ls.nil H _ 2, (Olds.refl H).app _⟩
  rename_i hyes
  obtain ⟨L, rfl⟩ : ∃ L, bm = some L := by
    cases bm with
    | none => simp at hyes
    | some L => exact ⟨L, rfl⟩
  simp only [Option.getD_some] at hv hlt hlen ⊢
  have hv2 : lenV Try.prog 29 v = some (i64 (L.length : Int)) := hv.len (by rw [ty_29])
  clear hblocks hyes
  have hB1 : hget (H ++ some (MO.mk [i64 n, i64 n, i64 n, .slice p 0 N z 1] true) :: J) H.length = some ⟨[i64 n, i64 n, i64 n, .slice p 0 N z 1], true⟩ := hget_new'
  have hB2 := hget_appL (L := some (MO.mk [i64 n, i64 n, i64 n, .slice p 0 N z 1] true) :: J) hp
  have hB4 : ∀ C, Olds (H ++ some (MO.mk [i64 n, i64 n, i64 n, .slice p 0 N z 1] true) :: J) C → Olds H C := fun C h => h.less
  have hB5 : ∀ C cs m v, Ls (H ++ some (MO.mk [i64 n, i64 n, i64 n, .slice p 0 N z 1] true) :: J) C 2 cs m v → Ls H C 2 cs m v := fun C cs m v h => h.less
  have hB6 : Ls (H ++ [some (MO.mk [i64 n, i64 n, i64 n, .slice p 0 N z 1] true)]) (H ++ some (MO.mk [i64 n, i64 n, i64 n, .slice p 0 N z 1] true) :: J) 1 (ints L) L.length v := by simpa using hv
  clear hv
  refine goA2 ?_
  repeat' first | (with_reducible (show W _ _ _ _ _); with_reducible refine go2 ?_) | (with_reducible (show W _ _ _ _ _); with_reducible refine sg2 ?_ ?_ <;> intro _) | (with_reducible (show W _ _ _ _ _); with_reducible refine sc2 ?_ ?_ <;> intro _) | (with_reducible (show W _ _ (.code (.region 11 _ true) :: _) _ _); with_reducible refine W_draw [(0, []), (1, []), (2, []), (4, []), (5, []), (6, []), (7, []), (9, []), (10, []), (11, []), (12, []), (14, []), (15, []), (16, []), (17, []), (18, []), (25, []), (3, [4, 9, 14, 25]), (8, [9, 14, 25]), (13, [14, 25]), (19, [25]), (20, []), (21, [25]), (22, []), (23, []), (24, []), (26, []), (27, [])] [4, 9, 14, 25] (by kernel_rfl) ?_)
  generalize (H ++ some (MO.mk [i64 n, i64 n, i64 n, .slice p 0 N z 1] true) :: J) = B at hB1 hB2 hB4 hB5 hB6
  replace hB4 : Hid2 (∀ C, Olds B C → Olds H C) := hB4
  replace hB5 : Hid2 (∀ C cs m v, Ls B C 2 cs m v → Ls H C 2 cs m v) := hB5
  replace hlt : Hid2 (∀ x ∈ L, (x : Int) < n) := hlt
  refine W_for (fun j ρ C => ∃ k m : Nat, k + j = L.length ∧ m ≤ 2 * k ∧ ρ 1 = .ptr H.length 0 ∧ ρ 8 = u8 (valsF n D 0 (L.take k)) ∧ ρ 20 = v ∧ ρ 21 = i64 (L.length : Int) ∧ ρ 22 = i64 k ∧ Olds B C ∧ Ls B C 2 ((valsL n D (L.take k)).map u64) m (ρ 7)) L.length ?_ ?_
  · refine ⟨0, 0, by omega, by omega, rfl, by simp [valsF, put], rfl, rfl, rfl, Olds.refl _, Ls.nil _ _ _⟩
  rintro j ρ C ⟨k, m, hk, hm, h1, h8, h20, h21, h22, hC, hx⟩
  have hBm := hC.get hB1
  have hpC := hC.get hB2
  have hvC := hB6.old hC
  have hl1 := lt_of_hget hBm
  have hty : (ty Try.prog 32).k = .slice 2 16 (some [.int .u64 0, .int .u64 0]) false := by rw [ty_32]
  by_cases hkl : k < L.length
  · have hia := hvC.ia hkl 8 (some [.int .i64 0]) true .i64
    have hld := hvC.ld (P := Try.prog) (t := 3) (by rw [ty_3]) (by rw [ty_3]) hkl (x := i64 ((L[k] : Nat) : Int)) (by simp [hkl])
    have hxn := hlt _ (List.getElem_mem hkl)
    have htk := take_snoc hkl
    generalize L[k] = x at hld hxn htk
    have hkl2 : ((k : Int) < (L.length : Int)) = True := eq_true (by omega)
    have e1 : IntKind.i64.wrap ((x : Int) + 1) = ((x + 1 : Nat) : Int) := by rw [wrap_i64 (by omega)]; omega
    have z2 : ((2 : Nat) : Int) = 2 := _root_.id rfl
    have ek : IntKind.i64.wrap ((k : Int) + 1) = ((k + 1 : Nat) : Int) := by rw [wrap_i64 (by omega)]; omega
    have hbs : ∀ x y : Int, bsV (.slice 2 16 (some [.int .u64 0, .int .u64 0]) false) 1 [(0, .agg [u64 x, u64 y])] = some ([u64 x, u64 y], 2) := fun x y => _root_.id rfl
    have hbs2 : ∀ x y a b : Int, bsV (.slice 2 16 (some [.int .u64 0, .int .u64 0]) false) 2 [(0, .agg [u64 x, u64 y]), (1, .agg [u64 a, u64 b])] = some ([u64 x, u64 y, u64 a, u64 b], 2) := fun x y a b => _root_.id rfl
    repeat' first | (with_reducible (show W _ _ _ _ _); with_reducible refine go2 ?_) | (with_reducible (show W _ _ _ _ _); with_reducible refine sg2 ?_ ?_ <;> intro _) | (with_reducible (show W _ _ _ _ _); with_reducible refine sc2 ?_ ?_ <;> intro _) | (with_reducible (show CallK _ _ _ _ _ _ _ _ _ _ _); with_reducible refine ce2 (at_ok h _ _ hpC hN) ?_) | (with_reducible (show CallK _ _ _ _ _ _ _ _ _ _ _); with_reducible refine ce2 (at_ok h _ _ (hget_appL hpC) hN) ?_) | (with_reducible (show CallK _ _ _ _ _ _ _ _ _ _ _); with_reducible refine ce2 (kind_spec _ _) ?_) | (with_reducible (show CallK _ _ _ _ _ _ _ _ _ _ _); with_reducible refine ce2 (bv_spec _ _ _ _ _) ?_) | (with_reducible (show W _ _ (.code (.region 11 _ true) :: _) _ _); with_reducible refine W_draw [(0, []), (1, []), (2, []), (4, []), (5, []), (6, []), (7, []), (9, []), (10, []), (11, []), (12, []), (14, []), (15, []), (16, []), (17, []), (18, []), (25, []), (3, [4, 9, 14, 25]), (8, [9, 14, 25]), (13, [14, 25]), (19, [25]), (20, []), (21, [25]), (22, []), (23, []), (24, []), (26, []), (27, [])] [4, 9, 14, 25] (by kernel_rfl) ?_) | ((with_reducible (show AppK _ _ _ _ _ _ _ _ _ _); with_reducible refine app_ls hC hx (by omega) hty ⟨by decide, by decide, rfl, by decide⟩ (k0 := 1) ⟨by decide, by decide⟩ rfl rfl rfl rfl rfl ?_; rintro v' C' hC' hx'; refine ⟨held_none _ _ _, ?_⟩)) | ((with_reducible (show AppK _ _ _ _ _ _ _ _ _ _); with_reducible refine app_ls2 hC hx (by omega) hty ⟨by decide, by decide, rfl, by decide⟩ (k0 := 2) ⟨by decide, by decide⟩ rfl rfl rfl rfl rfl ?_; rintro v' C' hC' hx'; refine ⟨held_none _ _ _, ?_⟩))
    · rename_i a1 a2
      have hs : stB n D x = true := by unfold stB; rw [decide_eq_true a2, Bool.or_true]
      refine ⟨j - 1, by omega, k + 1, m + 1, by omega, by omega, by rw [htk, valsF_st hs], rfl, ?_⟩
      rw [htk, valsL_st hs]; simpa using hx'
    · rename_i a1 a2
      have hs : stB n D x = false := by unfold stB; simp only [Bool.or_eq_false_iff, decide_eq_false_iff_not]; exact ⟨a1, a2⟩
      refine ⟨j - 1, by omega, k + 1, m + 2, by omega, by omega, by rw [htk, valsF_no hs]; rfl, rfl, ?_⟩
      rw [htk, valsL_no hs]; simpa [bvD] using hx'
    · rename_i a2
      have hs : stB n D x = true := by unfold stB; rw [decide_eq_true a2, Bool.true_or]
      refine ⟨j - 1, by omega, k + 1, m + 1, by omega, by omega, by rw [htk, valsF_st hs], rfl, ?_⟩
      rw [htk, valsL_st hs]; simpa using hx'
  · have hkl2 : ((k : Int) < (L.length : Int)) = False := eq_false (by omega)
    have hkk : L.take k = L := List.take_of_length_le (by omega)
    rw [hkk] at hx h8
    repeat' first | (with_reducible (show W _ _ _ _ _); with_reducible refine go2 ?_) | (with_reducible (show W _ _ _ _ _); with_reducible refine sg2 ?_ ?_ <;> intro _) | (with_reducible (show W _ _ _ _ _); with_reducible refine sc2 ?_ ?_ <;> intro _) | (with_reducible (show W _ _ (.code (.region 11 _ true) :: _) _ _); with_reducible refine W_draw [(0, []), (1, []), (2, []), (4, []), (5, []), (6, []), (7, []), (9, []), (10, []), (11, []), (12, []), (14, []), (15, []), (16, []), (17, []), (18, []), (25, []), (3, [4, 9, 14, 25]), (8, [9, 14, 25]), (13, [14, 25]), (19, [25]), (20, []), (21, [25]), (22, []), (23, []), (24, []), (26, []), (27, [])] [4, 9, 14, 25] (by kernel_rfl) ?_)
    have hm2 : m = (valsL n D L).length / 2 := by have := hx.1; rw [List.length_map] at this; omega
    rw [← hm2]
    exact ⟨(), _, rfl, hB5 _ _ _ _ hx, hB4 _ hC⟩
end Go.Proofs.Ytamoljalficfgaa.M
