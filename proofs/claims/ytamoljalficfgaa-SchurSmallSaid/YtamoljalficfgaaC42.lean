/- schur.Blocks: where a matrix's blocks begin. -/
import Derived.Test.YtamoljalficfgaaC41
set_option linter.unusedSimpArgs false
set_option linter.unusedVariables false
set_option pp.deepTerms false
set_option pp.maxSteps 1500
set_option maxRecDepth 10000
set_option maxHeartbeats 8000000
namespace Go.Proofs.Ytamoljalficfgaa.M
open Go Go.Proofs

/-- A list is kept, if there is one. -/
theorem Spec.lst {P : Program} {f : FuncId} {args : List MV} {H : MH} {T : Type} {G : T → Prop} {r : T → MV → MV} {cs : T → List MV} {m : T → Nat} {z : Nat} (hcs : ∀ t, ∀ c ∈ cs t, Cl 0 [] c) (hcl : ∀ n ps t v, Cl n ps v → Cl n ps (r t v)) (hr : ∀ π t v, ren π (r t v) = r t (ren π v))
    (h : Spec P f args H fun u H' => ∃ t v, G t ∧ u = r t v ∧ Ls H H' z (cs t) (m t) v ∧ Olds H H') : Spec P f args H fun u H' => ∃ t v J, G t ∧ u = r t v ∧ H' = H ++ J ∧ Ls H (H ++ J) z (cs t) (m t) v := by
  refine Spec.gc h ?_
  rintro u H1 ⟨t, v, hG, rfl, ⟨hlen, hL⟩, hold⟩
  have ht : H1.take H.length = H := by
    apply List.ext_getElem?
    intro i
    rw [List.getElem?_take]
    split
    · exact hold.2 i (by assumption)
    · rw [List.getElem?_eq_none (by omega)]
  have he : H1 = H ++ H1.drop H.length := by rw [← ht, List.length_take, Nat.min_eq_left hold.1, List.take_append_drop]
  rcases hL with ⟨hm, rfl⟩ | ⟨px, c, rfl, hc, hg, hp⟩
  · refine ⟨H, H1.drop H.length, [], he, rfl, List.nodup_nil, by simp, fun p o ho => .inl ho, by simp, hcl _ _ _ _ (by simp [Cl]), t, .lit (.slice none 0 0), [], hG, ?_, by simp, hlen, .inl ⟨hm, rfl⟩⟩
    rw [hr]; simp [ren]
  · have hk : keep H.length [px] px = H.length := by
      unfold keep
      rw [if_neg (by omega)]
      simp
    refine ⟨H, H1.drop H.length, [px], he, rfl, by simp, by simp; omega, fun p o ho => .inl ho, ?_, hcl _ _ _ _ (by simp [Cl]), t, .slice H.length 0 (m t) c z, [some ⟨cs t, true⟩], hG, ?_, ?_, hlen, .inr ⟨H.length, c, rfl, hc, ?_, Nat.le_refl _⟩⟩
    · intro x hx o ho c hc
      simp only [List.mem_singleton] at hx
      subst hx
      rw [hg] at ho
      cases ho
      exact cl_more (cl_mono (Nat.zero_le H.length) c (hcs t c hc))
    · rw [hr]; simp [ren, hk]
    · simp only [List.map_cons, List.map_nil, keptO, hg, Option.map_some]
      congr 3
      congr 1
      exact (List.map_congr_left fun c hc => ren_free c (hcs t c hc)).trans (List.map_id' _)
    · exact hget_append_new
theorem Ls.less {H L C : MH} {z : Nat} {cs : List MV} {m : Nat} {v : MV} (h : Ls (H ++ L) C z cs m v) : Ls H C z cs m v := by
  refine ⟨h.1, ?_⟩
  rcases h.2 with h | ⟨px, c, h1, h2, h3, h4⟩
  · exact .inl h
  · exact .inr ⟨px, c, h1, h2, h3, by rw [List.length_append] at h4; omega⟩
abbrev nils : MV := .lit (.slice none 0 0)
abbrev ints (L : List Nat) : List MV := L.map fun (i : Nat) => i64 (i : Int)
theorem closed_ints (L : List Nat) : ∀ c ∈ ints L, Cl 0 [] c := by
  intro c hc
  simp only [ints, List.mem_map] at hc
  obtain ⟨y, _, rfl⟩ := hc
  simp [Cl]

def stB (n : Int) (D : List Int) (i : Nat) : Bool := decide (((i + 1 : Nat) : Int) = n) || decide (kindM (atM n n n D ((i + 1 : Nat) : Int) i) = 1)
def pbB (n : Int) (D : List Int) (i : Nat) : Bool := plainM (atM n n n D i i) (atM n n n D i ((i + 1 : Nat) : Int)) (atM n n n D ((i + 1 : Nat) : Int) i) (atM n n n D ((i + 1 : Nat) : Int) ((i + 1 : Nat) : Int)) &&
  !(decide (((i + 2 : Nat) : Int) < n) && !decide (kindM (atM n n n D ((i + 2 : Nat) : Int) ((i + 1 : Nat) : Int)) = 1))
def blk (n : Int) (D : List Int) : Nat → Nat → Option (List Nat)
  | 0, _ => some []
  | f + 1, i => if (i : Int) < n then (if stB n D i = true then (blk n D f (i + 1)).map (i :: ·) else if pbB n D i = true then (blk n D f (i + 2)).map (i :: ·) else none) else some []
noncomputable def blocksM (n : Int) (D : List Int) : Option (List Nat) := if bo (IsH n n D) = true then blk n D n.toNat 0 else none
theorem blk_end {n : Int} {D : List Int} {f i : Nat} (h : ¬ (i : Int) < n) : blk n D f i = some [] := by
  cases f with
  | zero => rfl
  | succ f => unfold blk; rw [if_neg h]
theorem blk_st {n : Int} {D : List Int} {f i : Nat} (h : (i : Int) < n) (hs : stB n D i = true) : blk n D (f + 1) i = (blk n D f (i + 1)).map (i :: ·) := by
  rw [blk, if_pos h, if_pos hs]
theorem blk_pb {n : Int} {D : List Int} {f i : Nat} (h : (i : Int) < n) (hs : stB n D i = false) (hp : pbB n D i = true) : blk n D (f + 1) i = (blk n D f (i + 2)).map (i :: ·) := by
  rw [blk, if_pos h, if_neg (by rw [hs]; decide), if_pos hp]
theorem blk_no {n : Int} {D : List Int} {f i : Nat} (h : (i : Int) < n) (hs : stB n D i = false) (hp : pbB n D i = false) : blk n D (f + 1) i = none := by
  rw [blk, if_pos h, if_neg (by rw [hs]; decide), if_neg (by rw [hp]; decide)]
theorem blocks_spec {n : Int} {p z : Nat} {D : List Int} (h : MatOk n n D) (hn8 : n ≤ 100) {N : Nat} (hN : D.length = N) {H : MH} {rw : Bool} (hp : hget H p = some ⟨D.map u64, rw⟩) :
    Spec Try.prog 10 [mx n n n p N z] H fun u H' => ∃ (v : MV) (J : MH), u = .tup [v, bl (blocksM n D).isSome] ∧ H' = H ++ J ∧ Ls H (H ++ J) 1 (ints ((blocksM n D).getD [])) ((blocksM n D).getD []).length v := by
  have hpl := lt_of_hget hp
  have hn0 := h.r0
  have hsp := Spec.lst (P := Try.prog) (f := 10) (args := [mx n n n p N z]) (H := H) (G := fun _ : Unit => True) (r := fun _ v => .tup [v, bl (blocksM n D).isSome]) (cs := fun _ => ints ((blocksM n D).getD [])) (m := fun _ => ((blocksM n D).getD []).length) (z := 1)
    (fun _ => closed_ints _) (fun n ps t v hv => by simp [Cl, Cls', hv]) (fun π t v => by simp [ren, rens]) ?_
  · refine Spec.mono hsp ?_
    rintro u H' ⟨_, v, J, _, h1, h2, h3⟩
    exact ⟨v, J, h1, h2, h3⟩
  refine enterS Try.func10 [.tmp 2, .tmp 3] ?_
  have hnil : ∀ C, Ls H C 1 [] 0 nils := fun C => Ls.nil _ _ _
  by_cases hI : IsH n n D
  · have hb := bo_t hI
    have hbm : blocksM n D = blk n D n.toNat 0 := by unfold blocksM; rw [if_pos hb]
    rw [hbm]
    replace hI : Hid2 (IsH n n D) := hI
    repeat' first | (with_reducible (show W _ _ _ _ _); with_reducible refine go2 ?_) | (with_reducible (show W _ _ _ _ _); with_reducible refine sg2 ?_ ?_ <;> intro _) | (with_reducible (show W _ _ _ _ _); with_reducible refine sc2 ?_ ?_ <;> intro _) | (with_reducible (show CallK _ _ _ _ _ _ _ _ _ _ _); with_reducible refine ce2 (check_ok h hN _) ?_) | (with_reducible (show CallK _ _ _ _ _ _ _ _ _ _ _); with_reducible refine ce2 (is_spec h hN ((hget_old hpl).trans hp)) ?_) | (with_reducible (show W _ _ (.code (.region 9 _ true) :: _) _ _); with_reducible refine W_draw [(0, []), (1, []), (2, []), (4, []), (5, []), (6, []), (7, []), (9, []), (10, []), (11, []), (12, []), (14, []), (15, []), (16, []), (17, []), (18, []), (21, []), (3, [4, 9, 14, 21]), (8, [9, 14, 21]), (13, [14, 21]), (19, [21]), (20, []), (22, [])] [4, 9, 14, 21] (by kernel_rfl) ?_)
    have hB1 : hget (H ++ [some (MO.mk [i64 n, i64 n, i64 n, .slice p 0 N z 1] true)]) H.length = some ⟨[i64 n, i64 n, i64 n, .slice p 0 N z 1], true⟩ := hget_append_new
    have hB2 := hget_appL (L := [some (MO.mk [i64 n, i64 n, i64 n, .slice p 0 N z 1] true)]) hp
    have hB3 : Olds H (H ++ [some (MO.mk [i64 n, i64 n, i64 n, .slice p 0 N z 1] true)]) := (Olds.refl H).app _
    have hB4 : ∀ C, Olds (H ++ [some (MO.mk [i64 n, i64 n, i64 n, .slice p 0 N z 1] true)]) C → Olds H C := fun C h => h.less
    have hB5 : ∀ C cs m v, Ls (H ++ [some (MO.mk [i64 n, i64 n, i64 n, .slice p 0 N z 1] true)]) C 1 cs m v → Ls H C 1 cs m v := fun C cs m v h => h.less
    generalize (H ++ [some (MO.mk [i64 n, i64 n, i64 n, .slice p 0 N z 1] true)]) = B at hB1 hB2 hB3 hB4 hB5
    replace hB4 : Hid2 (∀ C, Olds B C → Olds H C) := hB4
    replace hB5 : Hid2 (∀ C cs m v, Ls B C 1 cs m v → Ls H C 1 cs m v) := hB5
    refine W_for (fun j ρ C => ∃ (i : Nat) (L : List Nat), n ≤ (i : Int) + j ∧ L.length ≤ i ∧ (i : Int) ≤ n ∧ blk n D n.toNat 0 = (blk n D j i).map (L ++ ·) ∧ ρ 1 = .ptr H.length 0 ∧ ρ 5 = i64 i ∧ Olds B C ∧ Ls B C 1 (ints L) L.length (ρ 4)) n.toNat ?_ ?_
    · refine ⟨0, [], by omega, Nat.zero_le _, hn0, by simp, rfl, rfl, Olds.refl _, Ls.nil _ _ _⟩
    rintro j ρ C ⟨i, L, hij, hLi, hin, hblk, h1, h5, hC, hx⟩
    have hBm := hC.get hB1
    have hpC := hC.get hB2
    have e1 : (i : Int) < n → IntKind.i64.wrap ((i : Int) + 1) = ((i + 1 : Nat) : Int) := fun h => by rw [wrap_i64 (by omega)]; omega
    have e2 : (i : Int) < n → IntKind.i64.wrap ((i : Int) + 2) = ((i + 2 : Nat) : Int) := fun h => by rw [wrap_i64 (by omega)]; omega
    have hbs : ∀ x : Int, bsV (.slice 1 8 (some [.int .i64 0]) true) 1 [(0, i64 x)] = some ([i64 x], 1) := fun x => _root_.id rfl
    have hty : (ty Try.prog 29).k = .slice 1 8 (some [.int .i64 0]) true := by rw [ty_29]
    repeat' first | (with_reducible (show W _ _ _ _ _); with_reducible refine go2 ?_) | (with_reducible (show W _ _ _ _ _); with_reducible refine sg2 ?_ ?_ <;> intro _) | (with_reducible (show W _ _ _ _ _); with_reducible refine sc2 ?_ ?_ <;> intro _) | (with_reducible (show W _ _ (.code (.region 9 _ true) :: _) _ _); with_reducible refine W_draw [(0, []), (1, []), (2, []), (4, []), (5, []), (6, []), (7, []), (9, []), (10, []), (11, []), (12, []), (14, []), (15, []), (16, []), (17, []), (18, []), (21, []), (3, [4, 9, 14, 21]), (8, [9, 14, 21]), (13, [14, 21]), (19, [21]), (20, []), (22, [])] [4, 9, 14, 21] (by kernel_rfl) ?_) | ((with_reducible (show AppK _ _ _ _ _ _ _ _ _ _); with_reducible refine app_ls hC hx (by omega) hty ⟨by decide, by decide, rfl, by decide⟩ (k0 := 1) ⟨by decide, by decide⟩ rfl rfl rfl rfl rfl ?_; rintro v' C' hC' hx'; refine ⟨held_none _ _ _, ?_⟩; have hBm' := hC'.get hB1; have hpC' := hC'.get hB2; have hl1 := lt_of_hget hBm'))
    all_goals try (repeat' first | (with_reducible (show W _ _ _ _ _); with_reducible refine go2 ?_) | (with_reducible (show W _ _ _ _ _); with_reducible refine sg2 ?_ ?_ <;> intro _) | (with_reducible (show W _ _ _ _ _); with_reducible refine sc2 ?_ ?_ <;> intro _) | (with_reducible (show CallK _ _ _ _ _ _ _ _ _ _ _); with_reducible refine ce2 (at_ok h _ _ hpC' hN) ?_) | (with_reducible (show CallK _ _ _ _ _ _ _ _ _ _ _); with_reducible refine ce2 (at_ok h _ _ (hget_appL hpC') hN) ?_) | (with_reducible (show CallK _ _ _ _ _ _ _ _ _ _ _); with_reducible refine ce2 (kind_spec _ _) ?_) | (with_reducible (show CallK _ _ _ _ _ _ _ _ _ _ _); with_reducible refine ce2 (plain_spec _ _ _ _ _) ?_) | (with_reducible (show W _ _ (.code (.region 9 _ true) :: _) _ _); with_reducible refine W_draw [(0, []), (1, []), (2, []), (4, []), (5, []), (6, []), (7, []), (9, []), (10, []), (11, []), (12, []), (14, []), (15, []), (16, []), (17, []), (18, []), (21, []), (3, [4, 9, 14, 21]), (8, [9, 14, 21]), (13, [14, 21]), (19, [21]), (20, []), (22, [])] [4, 9, 14, 21] (by kernel_rfl) ?_))
    · rename_i a1 a2 a3
      obtain ⟨f, rfl⟩ : ∃ f, j = f + 1 := ⟨j - 1, by omega⟩
      have hs : stB n D i = true := by unfold stB; rw [a3]; simp
      refine ⟨f, by omega, i + 1, L ++ [i], by omega, by simp; omega, by omega, ?_, rfl, by simpa [ints] using hx'⟩
      rw [blk_st a1 hs]; cases blk n D f (i + 1) <;> simp
    · rename_i a1 a2 a3 a4 a5 a6
      obtain ⟨f, rfl⟩ : ∃ f, j = f + 1 := ⟨j - 1, by omega⟩
      have hs : stB n D i = false := by unfold stB; simp only [Bool.or_eq_false_iff, decide_eq_false_iff_not]; exact ⟨a2, a3⟩
      have hq : pbB n D i = false := by unfold pbB; rw [decide_eq_true a5, decide_eq_false a6]; simp
      rw [blk_no a1 hs hq]
      exact ⟨(), nils, rfl, Ls.nil _ _ _, hB4 _ (hC'.app _)⟩
    · rename_i a1 a2 a3 a4 a5 a6
      obtain ⟨f, rfl⟩ : ∃ f, j = f + 1 := ⟨j - 1, by omega⟩
      have hs : stB n D i = false := by unfold stB; simp only [Bool.or_eq_false_iff, decide_eq_false_iff_not]; exact ⟨a2, a3⟩
      have hq : pbB n D i = true := by unfold pbB; rw [decide_eq_true a5, decide_eq_true a6]; simpa using a4
      refine ⟨f, by omega, i + 2, L ++ [i], by omega, by simp; omega, by omega, ?_, rfl, hC'.app _, by simpa [ints] using hx'.app _⟩
      rw [blk_pb a1 hs hq]; cases blk n D f (i + 2) <;> simp
    · rename_i a1 a2 a3 a4 a5
      obtain ⟨f, rfl⟩ : ∃ f, j = f + 1 := ⟨j - 1, by omega⟩
      have hs : stB n D i = false := by unfold stB; simp only [Bool.or_eq_false_iff, decide_eq_false_iff_not]; exact ⟨a2, a3⟩
      have hq : pbB n D i = true := by unfold pbB; rw [decide_eq_false a5]; simpa using a4
      refine ⟨f, by omega, i + 2, L ++ [i], by omega, by simp; omega, by omega, ?_, rfl, hC'.app _, by simpa [ints] using hx'.app _⟩
      rw [blk_pb a1 hs hq]; cases blk n D f (i + 2) <;> simp
    · rename_i a1 a2 a3 a4
      obtain ⟨f, rfl⟩ : ∃ f, j = f + 1 := ⟨j - 1, by omega⟩
      have hs : stB n D i = false := by unfold stB; simp only [Bool.or_eq_false_iff, decide_eq_false_iff_not]; exact ⟨a2, a3⟩
      have hq : pbB n D i = false := by unfold pbB; simp only [Bool.and_eq_false_iff]; exact .inl (by simpa using a4)
      rw [blk_no a1 hs hq]
      exact ⟨(), nils, rfl, Ls.nil _ _ _, hB4 _ (hC'.app _)⟩
    · rename_i a1 a2
      obtain ⟨f, rfl⟩ : ∃ f, j = f + 1 := ⟨j - 1, by omega⟩
      have hs : stB n D i = true := by unfold stB; rw [decide_eq_true a2]; rfl
      refine ⟨f, by omega, i + 1, L ++ [i], by omega, by simp; omega, by omega, ?_, by rw [← a2], by simpa [ints] using hx'⟩
      rw [blk_st a1 hs]; cases blk n D f (i + 1) <;> simp
    · rename_i a1
      rw [blk_end a1]
      exact ⟨(), _, rfl, by simpa using hB5 _ _ _ _ hx, hB4 _ hC⟩
  · have hb := bo_f hI
    have hbm : blocksM n D = none := by unfold blocksM; rw [if_neg (by rw [hb]; decide)]
    rw [hbm]
    replace hI : Hid2 (¬ IsH n n D) := hI
    repeat' first | (with_reducible (show W _ _ _ _ _); with_reducible refine go2 ?_) | (with_reducible (show W _ _ _ _ _); with_reducible refine sg2 ?_ ?_ <;> intro _) | (with_reducible (show W _ _ _ _ _); with_reducible refine sc2 ?_ ?_ <;> intro _) | (with_reducible (show CallK _ _ _ _ _ _ _ _ _ _ _); with_reducible refine ce2 (check_ok h hN _) ?_) | (with_reducible (show CallK _ _ _ _ _ _ _ _ _ _ _); with_reducible refine ce2 (is_spec h hN ((hget_old hpl).trans hp)) ?_) | (with_reducible (show W _ _ (.code (.region 9 _ true) :: _) _ _); with_reducible refine W_draw [(0, []), (1, []), (2, []), (4, []), (5, []), (6, []), (7, []), (9, []), (10, []), (11, []), (12, []), (14, []), (15, []), (16, []), (17, []), (18, []), (21, []), (3, [4, 9, 14, 21]), (8, [9, 14, 21]), (13, [14, 21]), (19, [21]), (20, []), (22, [])] [4, 9, 14, 21] (by kernel_rfl) ?_)
    all_goals exact ⟨(), nils, rfl, Ls.nil _ _ _, (Olds.refl H).app _⟩
end Go.Proofs.Ytamoljalficfgaa.M
