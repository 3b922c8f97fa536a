/- Lists of anything that grow. -/
import Derived.Test.YtdbngjlhcjjhbaaGreatDoorC11
import Derived.Test.YtdbngjlhcjjhbaaGreatDoorD1
import Derived.Test.YtdbngjlhcjjhbaaGreatDoorC37
set_option linter.unusedSimpArgs false
set_option linter.unusedVariables false
set_option maxRecDepth 10000
set_option maxHeartbeats 8000000
namespace Go.Proofs.YtdbngjlhcjjhbaaGreatDoor.M
open Go Go.Proofs

/-- What was there is as it was. -/
def Olds (H C : MH) : Prop := H.length ≤ C.length ∧ ∀ q, q < H.length → C[q]? = H[q]?
theorem Olds.refl (H : MH) : Olds H H := ⟨Nat.le_refl _, fun _ _ => rfl⟩
theorem Olds.app {H C : MH} (h : Olds H C) (L : MH) : Olds H (C ++ L) := ⟨by rw [List.length_append]; have := h.1; omega, fun q hq => by have := h.1; rw [List.getElem?_append_left (by omega)]; exact h.2 q hq⟩
theorem Olds.setq {H C : MH} (h : Olds H C) {q : Nat} (x : Option MO) (hq : H.length ≤ q) : Olds H (C.set q x) := ⟨by rw [List.length_set]; exact h.1, fun r hr => by rw [List.getElem?_set_ne (by omega)]; exact h.2 r hr⟩
theorem Olds.get {H C : MH} (h : Olds H C) {p : Nat} {o : MO} (hp : hget H p = some o) : hget C p = some o := by
  have := lt_of_hget hp
  unfold hget at hp ⊢
  rw [h.2 p this]; exact hp
theorem Olds.sl {H C : MH} (h : Olds H C) {v : MV} {xs : List Int} (hv : Sl H v xs) : Sl C v xs := by
  rcases hv with ⟨h1, a, h2⟩ | ⟨p, o, c, ob, h1, h2, h3⟩
  · exact .inl ⟨h1, a, h2⟩
  · exact .inr ⟨p, o, c, ob, h1, h.get h2, h3⟩
theorem Olds.less {H L C : MH} (h : Olds (H ++ L) C) : Olds H C := ⟨by have := h.1; rw [List.length_append] at this; omega, fun q hq => by rw [h.2 q (by rw [List.length_append]; omega), List.getElem?_append_left hq]⟩

/-- A list that grows: its cells, how many elements of so many cells each. -/
def Ls (H C : MH) (z : Nat) (cs : List MV) (m : Nat) (v : MV) : Prop := cs.length = m * z ∧ ((m = 0 ∧ v = .lit (.slice none 0 0)) ∨
  ∃ px c, v = .slice px 0 m c z ∧ m ≤ c ∧ hget C px = some ⟨cs, true⟩ ∧ H.length ≤ px)
theorem Ls.nil (H C : MH) (z : Nat) : Ls H C z [] 0 (.lit (.slice none 0 0)) := ⟨by simp, .inl ⟨rfl, rfl⟩⟩
theorem Ls.app {H C : MH} {z : Nat} {cs : List MV} {m : Nat} {v : MV} (h : Ls H C z cs m v) (L : MH) : Ls H (C ++ L) z cs m v := by
  refine ⟨h.1, ?_⟩
  rcases h.2 with h | ⟨px, c, h1, h2, h3, h4⟩
  · exact .inl h
  · exact .inr ⟨px, c, h1, h2, (hget_old (lt_of_hget h3)).trans h3, h4⟩
theorem Ls.len {H C : MH} {z : Nat} {cs : List MV} {m : Nat} {v : MV} (h : Ls H C z cs m v) {P : Program} {t : TypeId} {a b c d} (hk : (ty P t).k = .slice a b c d) : lenV P t v = some (i64 (m : Int)) := by
  rcases h.2 with ⟨rfl, rfl⟩ | ⟨px, c, rfl, _⟩ <;> simp [lenV, hk]
theorem app_ls {P : Program} {Q : MQ} {H C : MH} (hC : Olds H C) {z : Nat} {cs : List MV} {m : Nat} {v : MV} (hx : Ls H C z cs m v) (hm : m ≤ 10000000) {t : TypeId} {eb : Nat} {zs : List Value} {b : Bool} (ht : (ty P t).k = .slice z eb (some zs) b)
    (hz : 0 < z ∧ 0 < eb ∧ zs.length = z ∧ eb ≤ 2 ^ 10) {new : List MV} {k0 : Nat} (hk0 : 0 < k0 ∧ k0 ≤ 1000) (hnew : new.length = k0 * z) (hone : new.all one = true) {c1 n0 n1 : Nat} {C2 : MH} (hn0 : n0 = C.length) (hn1 : n1 = C.length + 1) (hC2 : C2 = C ++ [some ⟨new, true⟩])
    {d L l F k ρ} (h : ∀ v' C', Olds H C' → Ls H C' z (cs ++ new) (m + k0) v' → held P L C' F ∧ W P Q (.run l F :: k) (put ρ d v') C') :
    AppK P Q (appV P #[t, t] v (.slice n0 0 k0 c1 z) C2) n1 d L l F k ρ := by
  subst hn0 hn1 hC2
  have hnw : hget (C ++ [some ⟨new, true⟩]) C.length = some ⟨new, true⟩ := hget_append_new
  have htl : tailV z (.slice C.length 0 k0 c1 z) (C ++ [some ⟨new, true⟩]) = some (new, k0) := by
    simp only [tailV, if_true, cellsAt_eq, hnw]
    simp [hnew, List.take_of_length_le]
  have hCl := hC.1
  have hat : ∀ (A : MH) (o : MO) (k : Nat), k = A.length → hget (A ++ [some o]) k = some o := fun A o k hk => by subst hk; exact hget_append_new
  obtain ⟨hcl, hx⟩ := hx
  have hcl2 : (cs ++ new).length = (m + k0) * z := by rw [List.length_append, hcl, hnew, Nat.add_mul]
  rcases hx with ⟨rfl, rfl⟩ | ⟨px, c, rfl, hmc, hpx, h1⟩
  · have hcs : cs = [] := List.eq_nil_of_length_eq_zero (by rw [hcl]; simp)
    subst hcs
    have : appV P #[t, t] (.lit (.slice none 0 0)) (.slice C.length 0 k0 c1 z) (C ++ [some ⟨new, true⟩]) = some (some (new, k0, z), C ++ [some ⟨new, true⟩] ++ [some ⟨new, true⟩]) := by
      refine appV_of ?_
      unfold appV0
      simp only [List.getElem?_toArray, List.getElem?_cons_zero, List.getElem?_cons_succ, ht, htl]
      simp [hz, hone, show k0 ≠ 0 by omega, show k0 ≤ 68719476736 by omega]
    rw [this]
    simp only [AppK]
    intro c hc
    refine h _ _ ((hC.app _).app _) ⟨hcl2, .inr ⟨_, c, by rw [Nat.zero_add], by omega, ?_, ?_⟩⟩
    · exact hat _ _ _ (by simp)
    · omega
  · have hpo : hget (C ++ [some ⟨new, true⟩]) px = some ⟨cs, true⟩ := (hget_old (lt_of_hget hpx)).trans hpx
    have : appV P #[t, t] (.slice px 0 m c z) (.slice C.length 0 k0 c1 z) (C ++ [some ⟨new, true⟩]) = some (some (cs ++ new, m + k0, z), (C ++ [some (MO.mk new true)]).set px none ++ [some ⟨cs ++ new, true⟩]) := by
      refine appV_of ?_
      unfold appV0
      simp only [List.getElem?_toArray, List.getElem?_cons_zero, List.getElem?_cons_succ, ht, htl]
      simp [hz, hone, hpo, hcl, show m + k0 ≤ 68719476736 by omega]
    rw [this]
    simp only [AppK]
    intro c hc
    refine h _ _ (((hC.app _).setq _ h1).app _) ⟨hcl2, .inr ⟨_, c, rfl, hc, ?_, ?_⟩⟩
    · exact hat _ _ _ (by simp)
    · omega
end Go.Proofs.YtdbngjlhcjjhbaaGreatDoor.M

/- hess.Is; a block of two rows: is it plain, and its eigenvalues. -/
set_option linter.unusedSimpArgs false
set_option linter.unusedVariables false
set_option maxRecDepth 10000
set_option maxHeartbeats 8000000
namespace Go.Proofs.YtdbngjlhcjjhbaaGreatDoor.M
open Go Go.Proofs

open Classical in
noncomputable def bo (p : Prop) : Bool := decide p
theorem bo_iff {p : Prop} : bo p = true ↔ p := by unfold bo; simp
theorem bo_t {p : Prop} (h : p) : bo p = true := bo_iff.2 h
theorem bo_f {p : Prop} (h : ¬ p) : bo p = false := by unfold bo; simp [h]
theorem bo_of {p : Prop} {b : Bool} (h : b = true ↔ p) : bo p = b := by
  cases b
  · exact bo_f fun hp => by have := h.2 hp; cases this
  · exact bo_t (h.1 rfl)

/-- Zeros beneath what stands beneath the diagonal. -/
def IsH (r c : Int) (D : List Int) : Prop := ∀ i k : Nat, (i : Int) < r → (k : Int) < c → k + 2 ≤ i → kindM (atM r c c D i k) = 1
theorem is_spec {r c : Int} {p z : Nat} {D : List Int} (h : MatOk r c D) {N : Nat} (hN : D.length = N) {H : MH} {rw : Bool} (hp : hget H p = some ⟨D.map u64, rw⟩) :
    Spec Tryz.prog 40 [mx r c c p N z] H fun v H' => v = bl (bo (IsH r c D)) ∧ H' = H := by
  have hpl := lt_of_hget hp
  have hr := h.r1
  have hc := h.c1
  refine Spec.scalar (enterS Tryz.func40 [.tmp 2] ?_)
  repeat' first | (with_reducible (show W _ _ _ _ _); with_reducible refine go2 ?_) | (with_reducible (show W _ _ _ _ _); with_reducible refine sg2 ?_ ?_ <;> intro _) | (with_reducible (show W _ _ _ _ _); with_reducible refine sc2 ?_ ?_ <;> intro _)
  refine W_for (fun j ρ H' => ∃ i : Nat, 2 ≤ i ∧ i + j = r.toNat + 2 ∧ Hid2 (∀ i' k : Nat, i' < i → (i' : Int) < r → (k : Int) < c → k + 2 ≤ i' → kindM (atM r c c D i' k) = 1) ∧ ρ 1 = .ptr H.length 0 ∧ ρ 3 = i64 i ∧ H' = H ++ [some ⟨[i64 r, i64 c, i64 c, .slice p 0 N z 1], true⟩]) r.toNat ?_ ?_
  · refine ⟨2, by omega, by omega, fun i' k h1 h2 h3 h4 => by omega, ?_⟩
    simp [put, args0]
  rintro j ρ H' ⟨i, hi2, hi, hall, h1, h3, rfl⟩
  repeat' first | (with_reducible (show W _ _ _ _ _); with_reducible refine go2 ?_) | (with_reducible (show W _ _ _ _ _); with_reducible refine sg2 ?_ ?_ <;> intro _) | (with_reducible (show W _ _ _ _ _); with_reducible refine sc2 ?_ ?_ <;> intro _)
  · rename_i hlt
    have e5 : IntKind.i64.wrap ((i : Int) - 1) = (i : Int) - 1 := wrap_i64 (by omega)
    refine W_for (fun j' ρ H' => ∃ k : Nat, k + j' = c.toNat ∧ Hid2 (∀ k' : Nat, k' < k → (k' : Int) < c → k' + 2 ≤ i → kindM (atM r c c D i k') = 1) ∧ ρ 1 = .ptr H.length 0 ∧ ρ 3 = i64 i ∧ ρ 4 = i64 k ∧ H' = H ++ [some ⟨[i64 r, i64 c, i64 c, .slice p 0 N z 1], true⟩]) c.toNat ?_ ?_
    · refine ⟨0, by omega, fun k' hk => by omega, ?_⟩
      simp [put, *]
    clear h1 h3
    rintro j' ρ' H' ⟨k, hk, hrow, h1, h3, h4, rfl⟩
    have e4 : (k : Int) < c → IntKind.i64.wrap ((k : Int) + 1) = ((k + 1 : Nat) : Int) := fun h => by rw [wrap_i64 (by omega)]; omega
    have e3 : IntKind.i64.wrap ((i : Int) + 1) = ((i + 1 : Nat) : Int) := by rw [wrap_i64 (by omega)]; omega
    repeat' first | (with_reducible (show W _ _ _ _ _); with_reducible refine go2 ?_) | (with_reducible (show W _ _ _ _ _); with_reducible refine sg2 ?_ ?_ <;> intro _) | (with_reducible (show W _ _ _ _ _); with_reducible refine sc2 ?_ ?_ <;> intro _) | (with_reducible (show CallK _ _ _ _ _ _ _ _ _ _ _); with_reducible refine ce2 (at_ok h _ _ ((hget_old hpl).trans hp) hN) ?_) | (with_reducible (show CallK _ _ _ _ _ _ _ _ _ _ _); with_reducible refine ce2 (kind_spec _ _) ?_)
    · rename_i a1 a2 a3
      rw [bo_f fun hI => a3 (hI i k hlt a2 (by omega))]
    · rename_i a1 a2 a3
      refine ⟨j' - 1, by omega, k + 1, by omega, fun k' hk' hc' hk2 => ?_, rfl⟩
      by_cases e : k' = k
      · subst e; exact a3
      · exact hrow k' (by omega) hc' hk2
    all_goals
      rename_i a2
      refine ⟨j - 1, by omega, i + 1, by omega, by omega, fun i' k' hi' hr' hc' hk2 => ?_, rfl⟩
      by_cases e : i' = i
      · subst e; exact hrow k' (by omega) hc' hk2
      · exact hall i' k' (by omega) hr' hc' hk2
  · rename_i hge
    rw [bo_t (p := IsH r c D) fun i' k hr' hc' hk2 => hall i' k (by omega) hr' hc' hk2]

def plainM (a b c d : Int) : Bool := decide (kindM c = 1) || (decide (a = d) && decide (kindM b ≠ 1) && (negM b != negM c))
theorem plain_spec (a b c d : Int) (H : MH) : Spec Tryz.prog 41 [.agg [u64 a, u64 b, u64 c, u64 d]] H fun v H' => v = bl (plainM a b c d) ∧ H' = H := by
  refine Spec.scalar (enterS Tryz.func41 [.tmp 2] ?_)
  repeat' first | (with_reducible (show W _ _ _ _ _); with_reducible refine go2 ?_) | (with_reducible (show W _ _ _ _ _); with_reducible refine sg2 ?_ ?_ <;> intro _) | (with_reducible (show W _ _ _ _ _); with_reducible refine sc2 ?_ ?_ <;> intro _) | (with_reducible (show CallK _ _ _ _ _ _ _ _ _ _ _); with_reducible refine ce2 (kind_spec _ _) ?_) | (with_reducible (show CallK _ _ _ _ _ _ _ _ _ _ _); with_reducible refine ce2 (neg_spec _ _) ?_) | (with_reducible (show W _ _ (.code (.region 3 _ true) :: _) _ _); with_reducible refine W_draw [(0, []), (1, []), (2, []), (3, []), (4, []), (5, []), (6, []), (7, []), (8, []), (9, []), (10, []), (11, []), (12, []), (13, []), (15, []), (16, []), (14, [16]), (17, []), (18, []), (19, []), (20, [])] [16] (by kernel_rfl) ?_)
  all_goals simp_all [plainM]
  all_goals (cases negM b <;> cases negM c <;> rfl)
/-- The two eigenvalues of a block, as four numbers; what was met. -/
def bvM (a b c d : Int) : (Int × Int × Int × Int) × Int :=
  if kindM c = 1 then ((a, 0, d, 0), 0) else
    let x := sqrtM (absM b)
    let y := sqrtM (absM c)
    let m := mulM x.1 y.1
    ((a, m.1, d, flipM m.1), bits .or .u8 (bits .or .u8 (bits .or .u8 0 x.2) y.2) m.2)
end Go.Proofs.YtdbngjlhcjjhbaaGreatDoor.M

/- schur.Blocks: where a matrix's blocks begin. -/
set_option linter.unusedSimpArgs false
set_option linter.unusedVariables false
set_option pp.deepTerms false
set_option pp.maxSteps 1500
set_option maxRecDepth 10000
set_option maxHeartbeats 8000000
namespace Go.Proofs.YtdbngjlhcjjhbaaGreatDoor.M
open Go Go.Proofs

/-- A list is kept, if there is one. -/
theorem Spec.lst {P : Program} {f : FuncId} {args : List MV} {H : MH} {T : Type} {G : T → Prop} {r : T → MV → MV} {cs : T → List MV} {m : T → Nat} {z : Nat} (hcs : ∀ t, ∀ c ∈ cs t, Cl 0 [] c) (hcl : ∀ n ps t v, Cl n ps v → Cl n ps (r t v)) (hr : ∀ π t v, ren π (r t v) = r t (ren π v))
    (h : Spec P f args H fun u H' => ∃ t v, G t ∧ u = r t v ∧ Ls H H' z (cs t) (m t) v ∧ Olds H H') : Spec P f args H fun u H' => ∃ t v J, G t ∧ u = r t v ∧ H' = H ++ J ∧ Ls H (H ++ J) z (cs t) (m t) v := by
  refine Spec.gc h ?_
  rintro u H1 ⟨t, v, hG, rfl, ⟨hlen, hL⟩, hold⟩
  have ht : H1.take H.length = H := by
    apply List.ext_getElem?
    intro i
    rw [List.getElem?_take]
    split
    · exact hold.2 i (by assumption)
    · rw [List.getElem?_eq_none (by omega)]
  have he : H1 = H ++ H1.drop H.length := by rw [← ht, List.length_take, Nat.min_eq_left hold.1, List.take_append_drop]
  rcases hL with ⟨hm, rfl⟩ | ⟨px, c, rfl, hc, hg, hp⟩
  · refine ⟨H, H1.drop H.length, [], he, rfl, List.nodup_nil, by simp, fun p o ho => .inl ho, by simp, hcl _ _ _ _ (by simp [Cl]), t, .lit (.slice none 0 0), [], hG, ?_, by simp, hlen, .inl ⟨hm, rfl⟩⟩
    rw [hr]; simp [ren]
  · have hk : keep H.length [px] px = H.length := by
      unfold keep
      rw [if_neg (by omega)]
      simp
    refine ⟨H, H1.drop H.length, [px], he, rfl, by simp, by simp; omega, fun p o ho => .inl ho, ?_, hcl _ _ _ _ (by simp [Cl]), t, .slice H.length 0 (m t) c z, [some ⟨cs t, true⟩], hG, ?_, ?_, hlen, .inr ⟨H.length, c, rfl, hc, ?_, Nat.le_refl _⟩⟩
    · intro x hx o ho c hc
      simp only [List.mem_singleton] at hx
      subst hx
      rw [hg] at ho
      cases ho
      exact cl_more (cl_mono (Nat.zero_le H.length) c (hcs t c hc))
    · rw [hr]; simp [ren, hk]
    · simp only [List.map_cons, List.map_nil, keptO, hg, Option.map_some]
      congr 3
      congr 1
      exact (List.map_congr_left fun c hc => ren_free c (hcs t c hc)).trans (List.map_id' _)
    · exact hget_append_new
theorem Ls.less {H L C : MH} {z : Nat} {cs : List MV} {m : Nat} {v : MV} (h : Ls (H ++ L) C z cs m v) : Ls H C z cs m v := by
  refine ⟨h.1, ?_⟩
  rcases h.2 with h | ⟨px, c, h1, h2, h3, h4⟩
  · exact .inl h
  · exact .inr ⟨px, c, h1, h2, h3, by rw [List.length_append] at h4; omega⟩
abbrev nils : MV := .lit (.slice none 0 0)
abbrev ints (L : List Nat) : List MV := L.map fun (i : Nat) => i64 (i : Int)
theorem closed_ints (L : List Nat) : ∀ c ∈ ints L, Cl 0 [] c := by
  intro c hc
  simp only [ints, List.mem_map] at hc
  obtain ⟨y, _, rfl⟩ := hc
  simp [Cl]

def stB (n : Int) (D : List Int) (i : Nat) : Bool := decide (((i + 1 : Nat) : Int) = n) || decide (kindM (atM n n n D ((i + 1 : Nat) : Int) i) = 1)
def pbB (n : Int) (D : List Int) (i : Nat) : Bool := plainM (atM n n n D i i) (atM n n n D i ((i + 1 : Nat) : Int)) (atM n n n D ((i + 1 : Nat) : Int) i) (atM n n n D ((i + 1 : Nat) : Int) ((i + 1 : Nat) : Int)) &&
  !(decide (((i + 2 : Nat) : Int) < n) && !decide (kindM (atM n n n D ((i + 2 : Nat) : Int) ((i + 1 : Nat) : Int)) = 1))
def blk (n : Int) (D : List Int) : Nat → Nat → Option (List Nat)
  | 0, _ => some []
  | f + 1, i => if (i : Int) < n then (if stB n D i = true then (blk n D f (i + 1)).map (i :: ·) else if pbB n D i = true then (blk n D f (i + 2)).map (i :: ·) else none) else some []
noncomputable def blocksM (n : Int) (D : List Int) : Option (List Nat) := if bo (IsH n n D) = true then blk n D n.toNat 0 else none
theorem blk_end {n : Int} {D : List Int} {f i : Nat} (h : ¬ (i : Int) < n) : blk n D f i = some [] := by
  cases f with
  | zero => rfl
  | succ f => unfold blk; rw [if_neg h]
theorem blk_st {n : Int} {D : List Int} {f i : Nat} (h : (i : Int) < n) (hs : stB n D i = true) : blk n D (f + 1) i = (blk n D f (i + 1)).map (i :: ·) := by
  rw [blk, if_pos h, if_pos hs]
theorem blk_pb {n : Int} {D : List Int} {f i : Nat} (h : (i : Int) < n) (hs : stB n D i = false) (hp : pbB n D i = true) : blk n D (f + 1) i = (blk n D f (i + 2)).map (i :: ·) := by
  rw [blk, if_pos h, if_neg (by rw [hs]; decide), if_pos hp]
theorem blk_no {n : Int} {D : List Int} {f i : Nat} (h : (i : Int) < n) (hs : stB n D i = false) (hp : pbB n D i = false) : blk n D (f + 1) i = none := by
  rw [blk, if_pos h, if_neg (by rw [hs]; decide), if_neg (by rw [hp]; decide)]
theorem blocks_spec {n : Int} {p z : Nat} {D : List Int} (h : MatOk n n D) (hn8 : n ≤ 100) {N : Nat} (hN : D.length = N) {H : MH} {rw : Bool} (hp : hget H p = some ⟨D.map u64, rw⟩) :
    Spec Tryz.prog 34 [mx n n n p N z] H fun u H' => ∃ (v : MV) (J : MH), u = .tup [v, bl (blocksM n D).isSome] ∧ H' = H ++ J ∧ Ls H (H ++ J) 1 (ints ((blocksM n D).getD [])) ((blocksM n D).getD []).length v := by
  have hpl := lt_of_hget hp
  have hn0 := h.r0
  have hsp := Spec.lst (P := Tryz.prog) (f := 34) (args := [mx n n n p N z]) (H := H) (G := fun _ : Unit => True) (r := fun _ v => .tup [v, bl (blocksM n D).isSome]) (cs := fun _ => ints ((blocksM n D).getD [])) (m := fun _ => ((blocksM n D).getD []).length) (z := 1)
    (fun _ => closed_ints _) (fun n ps t v hv => by simp [Cl, Cls', hv]) (fun π t v => by simp [ren, rens]) ?_
  · refine Spec.mono hsp ?_
    rintro u H' ⟨_, v, J, _, h1, h2, h3⟩
    exact ⟨v, J, h1, h2, h3⟩
  refine enterS Tryz.func34 [.tmp 2, .tmp 3] ?_
  have hnil : ∀ C, Ls H C 1 [] 0 nils := fun C => Ls.nil _ _ _
  by_cases hI : IsH n n D
  · have hb := bo_t hI
    have hbm : blocksM n D = blk n D n.toNat 0 := by unfold blocksM; rw [if_pos hb]
    rw [hbm]
    replace hI : Hid2 (IsH n n D) := hI
    repeat' first | (with_reducible (show W _ _ _ _ _); with_reducible refine go2 ?_) | (with_reducible (show W _ _ _ _ _); with_reducible refine sg2 ?_ ?_ <;> intro _) | (with_reducible (show W _ _ _ _ _); with_reducible refine sc2 ?_ ?_ <;> intro _) | (with_reducible (show CallK _ _ _ _ _ _ _ _ _ _ _); with_reducible refine ce2 (check_ok h hN _) ?_) | (with_reducible (show CallK _ _ _ _ _ _ _ _ _ _ _); with_reducible refine ce2 (is_spec h hN ((hget_old hpl).trans hp)) ?_) | (with_reducible (show W _ _ (.code (.region 9 _ true) :: _) _ _); with_reducible refine W_draw [(0, []), (1, []), (2, []), (4, []), (5, []), (6, []), (7, []), (9, []), (10, []), (11, []), (12, []), (14, []), (15, []), (16, []), (17, []), (18, []), (21, []), (3, [4, 9, 14, 21]), (8, [9, 14, 21]), (13, [14, 21]), (19, [21]), (20, []), (22, [])] [4, 9, 14, 21] (by kernel_rfl) ?_)
    have hB1 : hget (H ++ [some (MO.mk [i64 n, i64 n, i64 n, .slice p 0 N z 1] true)]) H.length = some ⟨[i64 n, i64 n, i64 n, .slice p 0 N z 1], true⟩ := hget_append_new
    have hB2 := hget_appL (L := [some (MO.mk [i64 n, i64 n, i64 n, .slice p 0 N z 1] true)]) hp
    have hB3 : Olds H (H ++ [some (MO.mk [i64 n, i64 n, i64 n, .slice p 0 N z 1] true)]) := (Olds.refl H).app _
    have hB4 : ∀ C, Olds (H ++ [some (MO.mk [i64 n, i64 n, i64 n, .slice p 0 N z 1] true)]) C → Olds H C := fun C h => h.less
    have hB5 : ∀ C cs m v, Ls (H ++ [some (MO.mk [i64 n, i64 n, i64 n, .slice p 0 N z 1] true)]) C 1 cs m v → Ls H C 1 cs m v := fun C cs m v h => h.less
    generalize (H ++ [some (MO.mk [i64 n, i64 n, i64 n, .slice p 0 N z 1] true)]) = B at hB1 hB2 hB3 hB4 hB5
    replace hB4 : Hid2 (∀ C, Olds B C → Olds H C) := hB4
    replace hB5 : Hid2 (∀ C cs m v, Ls B C 1 cs m v → Ls H C 1 cs m v) := hB5
    refine W_for (fun j ρ C => ∃ (i : Nat) (L : List Nat), n ≤ (i : Int) + j ∧ L.length ≤ i ∧ (i : Int) ≤ n ∧ blk n D n.toNat 0 = (blk n D j i).map (L ++ ·) ∧ ρ 1 = .ptr H.length 0 ∧ ρ 5 = i64 i ∧ Olds B C ∧ Ls B C 1 (ints L) L.length (ρ 4)) n.toNat ?_ ?_
    · refine ⟨0, [], by omega, Nat.zero_le _, hn0, by simp, rfl, rfl, Olds.refl _, Ls.nil _ _ _⟩
    rintro j ρ C ⟨i, L, hij, hLi, hin, hblk, h1, h5, hC, hx⟩
    have hBm := hC.get hB1
    have hpC := hC.get hB2
    have e1 : (i : Int) < n → IntKind.i64.wrap ((i : Int) + 1) = ((i + 1 : Nat) : Int) := fun h => by rw [wrap_i64 (by omega)]; omega
    have e2 : (i : Int) < n → IntKind.i64.wrap ((i : Int) + 2) = ((i + 2 : Nat) : Int) := fun h => by rw [wrap_i64 (by omega)]; omega
    have hbs : ∀ x : Int, bsV (.slice 1 8 (some [.int .i64 0]) true) 1 [(0, i64 x)] = some ([i64 x], 1) := fun x => _root_.id rfl
    have hty : (ty Tryz.prog 48).k = .slice 1 8 (some [.int .i64 0]) true := by rw [ty_48]
    repeat' first | (with_reducible (show W _ _ _ _ _); with_reducible refine go2 ?_) | (with_reducible (show W _ _ _ _ _); with_reducible refine sg2 ?_ ?_ <;> intro _) | (with_reducible (show W _ _ _ _ _); with_reducible refine sc2 ?_ ?_ <;> intro _) | (with_reducible (show W _ _ (.code (.region 9 _ true) :: _) _ _); with_reducible refine W_draw [(0, []), (1, []), (2, []), (4, []), (5, []), (6, []), (7, []), (9, []), (10, []), (11, []), (12, []), (14, []), (15, []), (16, []), (17, []), (18, []), (21, []), (3, [4, 9, 14, 21]), (8, [9, 14, 21]), (13, [14, 21]), (19, [21]), (20, []), (22, [])] [4, 9, 14, 21] (by kernel_rfl) ?_) | ((with_reducible (show AppK _ _ _ _ _ _ _ _ _ _); with_reducible refine app_ls hC hx (by omega) hty ⟨by decide, by decide, rfl, by decide⟩ (k0 := 1) ⟨by decide, by decide⟩ rfl rfl rfl rfl rfl ?_; rintro v' C' hC' hx'; refine ⟨held_none _ _ _, ?_⟩; have hBm' := hC'.get hB1; have hpC' := hC'.get hB2; have hl1 := lt_of_hget hBm'))
    all_goals try (repeat' first | (with_reducible (show W _ _ _ _ _); with_reducible refine go2 ?_) | (with_reducible (show W _ _ _ _ _); with_reducible refine sg2 ?_ ?_ <;> intro _) | (with_reducible (show W _ _ _ _ _); with_reducible refine sc2 ?_ ?_ <;> intro _) | (with_reducible (show CallK _ _ _ _ _ _ _ _ _ _ _); with_reducible refine ce2 (at_ok h _ _ hpC' hN) ?_) | (with_reducible (show CallK _ _ _ _ _ _ _ _ _ _ _); with_reducible refine ce2 (at_ok h _ _ (hget_appL hpC') hN) ?_) | (with_reducible (show CallK _ _ _ _ _ _ _ _ _ _ _); with_reducible refine ce2 (kind_spec _ _) ?_) | (with_reducible (show CallK _ _ _ _ _ _ _ _ _ _ _); with_reducible refine ce2 (plain_spec _ _ _ _ _) ?_) | (with_reducible (show W _ _ (.code (.region 9 _ true) :: _) _ _); with_reducible refine W_draw [(0, []), (1, []), (2, []), (4, []), (5, []), (6, []), (7, []), (9, []), (10, []), (11, []), (12, []), (14, []), (15, []), (16, []), (17, []), (18, []), (21, []), (3, [4, 9, 14, 21]), (8, [9, 14, 21]), (13, [14, 21]), (19, [21]), (20, []), (22, [])] [4, 9, 14, 21] (by kernel_rfl) ?_))
    · rename_i a1 a2 a3
      obtain ⟨f, rfl⟩ : ∃ f, j = f + 1 := ⟨j - 1, by omega⟩
      have hs : stB n D i = true := by unfold stB; rw [a3]; simp
      refine ⟨f, by omega, i + 1, L ++ [i], by omega, by simp; omega, by omega, ?_, rfl, by simpa [ints] using hx'⟩
      rw [blk_st a1 hs]; cases blk n D f (i + 1) <;> simp
    · rename_i a1 a2 a3 a4 a5 a6
      obtain ⟨f, rfl⟩ : ∃ f, j = f + 1 := ⟨j - 1, by omega⟩
      have hs : stB n D i = false := by unfold stB; simp only [Bool.or_eq_false_iff, decide_eq_false_iff_not]; exact ⟨a2, a3⟩
      have hq : pbB n D i = false := by unfold pbB; rw [decide_eq_true a5, decide_eq_false a6]; simp
      rw [blk_no a1 hs hq]
      exact ⟨(), nils, rfl, Ls.nil _ _ _, hB4 _ (hC'.app _)⟩
    · rename_i a1 a2 a3 a4 a5 a6
      obtain ⟨f, rfl⟩ : ∃ f, j = f + 1 := ⟨j - 1, by omega⟩
      have hs : stB n D i = false := by unfold stB; simp only [Bool.or_eq_false_iff, decide_eq_false_iff_not]; exact ⟨a2, a3⟩
      have hq : pbB n D i = true := by unfold pbB; rw [decide_eq_true a5, decide_eq_true a6]; simpa using a4
      refine ⟨f, by omega, i + 2, L ++ [i], by omega, by simp; omega, by omega, ?_, rfl, hC'.app _, by simpa [ints] using hx'.app _⟩
      rw [blk_pb a1 hs hq]; cases blk n D f (i + 2) <;> simp
    · rename_i a1 a2 a3 a4 a5
      obtain ⟨f, rfl⟩ : ∃ f, j = f + 1 := ⟨j - 1, by omega⟩
      have hs : stB n D i = false := by unfold stB; simp only [Bool.or_eq_false_iff, decide_eq_false_iff_not]; exact ⟨a2, a3⟩
      have hq : pbB n D i = true := by unfold pbB; rw [decide_eq_false a5]; simpa using a4
      refine ⟨f, by omega, i + 2, L ++ [i], by omega, by simp; omega, by omega, ?_, rfl, hC'.app _, by simpa [ints] using hx'.app _⟩
      rw [blk_pb a1 hs hq]; cases blk n D f (i + 2) <;> simp
    · rename_i a1 a2 a3 a4
      obtain ⟨f, rfl⟩ : ∃ f, j = f + 1 := ⟨j - 1, by omega⟩
      have hs : stB n D i = false := by unfold stB; simp only [Bool.or_eq_false_iff, decide_eq_false_iff_not]; exact ⟨a2, a3⟩
      have hq : pbB n D i = false := by unfold pbB; simp only [Bool.and_eq_false_iff]; exact .inl (by simpa using a4)
      rw [blk_no a1 hs hq]
      exact ⟨(), nils, rfl, Ls.nil _ _ _, hB4 _ (hC'.app _)⟩
    · rename_i a1 a2
      obtain ⟨f, rfl⟩ : ∃ f, j = f + 1 := ⟨j - 1, by omega⟩
      have hs : stB n D i = true := by unfold stB; rw [decide_eq_true a2]; rfl
      refine ⟨f, by omega, i + 1, L ++ [i], by omega, by simp; omega, by omega, ?_, by rw [← a2], by simpa [ints] using hx'⟩
      rw [blk_st a1 hs]; cases blk n D f (i + 1) <;> simp
    · rename_i a1
      rw [blk_end a1]
      exact ⟨(), _, rfl, by simpa using hB5 _ _ _ _ hx, hB4 _ hC⟩
  · have hb := bo_f hI
    have hbm : blocksM n D = none := by unfold blocksM; rw [if_neg (by rw [hb]; decide)]
    rw [hbm]
    replace hI : Hid2 (¬ IsH n n D) := hI
    repeat' first | (with_reducible (show W _ _ _ _ _); with_reducible refine go2 ?_) | (with_reducible (show W _ _ _ _ _); with_reducible refine sg2 ?_ ?_ <;> intro _) | (with_reducible (show W _ _ _ _ _); with_reducible refine sc2 ?_ ?_ <;> intro _) | (with_reducible (show CallK _ _ _ _ _ _ _ _ _ _ _); with_reducible refine ce2 (check_ok h hN _) ?_) | (with_reducible (show CallK _ _ _ _ _ _ _ _ _ _ _); with_reducible refine ce2 (is_spec h hN ((hget_old hpl).trans hp)) ?_) | (with_reducible (show W _ _ (.code (.region 9 _ true) :: _) _ _); with_reducible refine W_draw [(0, []), (1, []), (2, []), (4, []), (5, []), (6, []), (7, []), (9, []), (10, []), (11, []), (12, []), (14, []), (15, []), (16, []), (17, []), (18, []), (21, []), (3, [4, 9, 14, 21]), (8, [9, 14, 21]), (13, [14, 21]), (19, [21]), (20, []), (22, [])] [4, 9, 14, 21] (by kernel_rfl) ?_)
    all_goals exact ⟨(), nils, rfl, Ls.nil _ _ _, (Olds.refl H).app _⟩
end Go.Proofs.YtdbngjlhcjjhbaaGreatDoor.M

/- schur.Values: a quasi-triangular matrix's eigenvalues. -/
set_option linter.unusedSimpArgs false
set_option linter.unusedVariables false
set_option pp.deepTerms false
set_option pp.maxSteps 1500
set_option maxRecDepth 10000
set_option maxHeartbeats 8000000
namespace Go.Proofs.YtdbngjlhcjjhbaaGreatDoor.M
open Go Go.Proofs

/-- Where a list's element lies. -/
def ixz (v : MV) (j z : Nat) : MV := match v with
  | .slice p o _ _ _ => .ptr p (o + j * z)
  | _ => default
theorem Ls.ia {H C : MH} {z : Nat} {cs : List MV} {m : Nat} {v : MV} (h : Ls H C z cs m v) {j : Nat} (hj : j < m) (e : Nat) (zs : Option (List Value)) (b : Bool) (k : IntKind) : iaV (.slice z e zs b) v (.lit (.int k j)) = some (ixz v j z) := by
  rcases h.2 with ⟨rfl, rfl⟩ | ⟨px, c, rfl, hc, hp, hl⟩
  · omega
  · rw [iaV_slice, if_pos ⟨by omega, by omega⟩]
    simp [ixz]
theorem Ls.ld {H C : MH} {cs : List MV} {m : Nat} {v : MV} (h : Ls H C 1 cs m v) {P : Program} {t : TypeId} (hk : (ty P t).known = true) (ha : (ty P t).agg = false) {j : Nat} (hj : j < m) {x : MV} (hx : cs[j]? = some x) : loadV P t (ixz v j 1) C = some x := by
  rcases h.2 with ⟨rfl, rfl⟩ | ⟨px, c, rfl, hc, hp, hl⟩
  · omega
  · simp only [ixz, loadV, hk, ha, if_true, Bool.false_eq_true, if_false, hp, Option.bind_some, Nat.mul_one, Nat.zero_add]
    exact hx
theorem Ls.ld2 {H C : MH} {cs : List MV} {m : Nat} {v : MV} (h : Ls H C 2 cs m v) {P : Program} {t : TypeId} (hk : (ty P t).known = true) (ha : (ty P t).agg = true) (hs : (ty P t).sz = some 2) {j : Nat} (hj : j < m) {x y : MV} (hx : cs[j * 2]? = some x) (hy : cs[j * 2 + 1]? = some y) : loadV P t (ixz v j 2) C = some (.agg [x, y]) := by
  have hlen := h.1
  rcases h.2 with ⟨rfl, rfl⟩ | ⟨px, c, rfl, hc, hp, hl⟩
  · omega
  · simp only [ixz, loadV, hk, ha, hs, if_true, cellsAt_eq, hp, Nat.zero_add]
    have h1 : j * 2 < cs.length := by omega
    have h2 : j * 2 + 1 < cs.length := by omega
    rw [List.getElem?_eq_getElem h1] at hx
    rw [List.getElem?_eq_getElem h2] at hy
    cases hx
    cases hy
    have e : (cs.drop (j * 2)).take 2 = [cs[j * 2], cs[j * 2 + 1]] := by
      rw [List.drop_eq_getElem_cons h1, List.drop_eq_getElem_cons h2]
      rfl
    simp [e, show j * 2 + 2 ≤ cs.length by omega]
theorem Ls.old {H C C' : MH} {z : Nat} {cs : List MV} {m : Nat} {v : MV} (h : Ls H C z cs m v) (hC : Olds C C') : Ls H C' z cs m v := by
  refine ⟨h.1, ?_⟩
  rcases h.2 with h | ⟨px, c, h1, h2, h3, h4⟩
  · exact .inl h
  · exact .inr ⟨px, c, h1, h2, hC.get h3, h4⟩

theorem app_ls2 {P : Program} {Q : MQ} {H C : MH} (hC : Olds H C) {z : Nat} {cs : List MV} {m : Nat} {v : MV} (hx : Ls H C z cs m v) (hm : m ≤ 10000000) {t : TypeId} {eb : Nat} {zs : List Value} {b : Bool} (ht : (ty P t).k = .slice z eb (some zs) b)
    (hz : 0 < z ∧ 0 < eb ∧ zs.length = z ∧ eb ≤ 2 ^ 10) {new : List MV} {k0 : Nat} (hk0 : 0 < k0 ∧ k0 ≤ 1000) (hnew : new.length = k0 * z) (hone : new.all one = true) {c1 n0 n1 : Nat} {C2 : MH} {a : Option MO} (hC2 : C2 = C ++ [a, some ⟨new, true⟩]) (hn0 : n0 = C.length + 1) (hn1 : n1 = C.length + 2)
    {d L l F k ρ} (h : ∀ v' C', Olds H C' → Ls H C' z (cs ++ new) (m + k0) v' → held P L C' F ∧ W P Q (.run l F :: k) (put ρ d v') C') :
    AppK P Q (appV P #[t, t] v (.slice n0 0 k0 c1 z) C2) n1 d L l F k ρ :=
  app_ls (hC.app [a]) (hx.app [a]) hm ht hz hk0 hnew hone (by simp [hn0]) (by simp [hn1]) (by simp [hC2]) h
theorem blk_lt {n : Int} {D : List Int} : ∀ {f i : Nat} {L : List Nat}, blk n D f i = some L → ∀ x ∈ L, (x : Int) < n
  | 0, i, L, h, x, hx => by cases h; cases hx
  | f + 1, i, L, h, x, hx => by
    unfold blk at h
    split at h
    · rename_i hi
      split at h
      · obtain ⟨L', h1, rfl⟩ := Option.map_eq_some_iff.1 h
        rcases List.mem_cons.1 hx with rfl | hx
        · exact hi
        · exact blk_lt h1 x hx
      · split at h
        · obtain ⟨L', h1, rfl⟩ := Option.map_eq_some_iff.1 h
          rcases List.mem_cons.1 hx with rfl | hx
          · exact hi
          · exact blk_lt h1 x hx
        · cases h
    · cases h; cases hx
theorem blk_len {n : Int} {D : List Int} : ∀ {f i : Nat} {L : List Nat}, blk n D f i = some L → L.length ≤ f
  | 0, i, L, h => by cases h; exact Nat.le_refl _
  | f + 1, i, L, h => by
    unfold blk at h
    split at h
    · split at h
      · obtain ⟨L', h1, rfl⟩ := Option.map_eq_some_iff.1 h
        have := blk_len h1; simp; exact this
      · split at h
        · obtain ⟨L', h1, rfl⟩ := Option.map_eq_some_iff.1 h
          have := blk_len h1; simp; exact this
        · cases h
    · cases h; exact Nat.zero_le _

def bvD (n : Int) (D : List Int) (i : Nat) : (Int × Int × Int × Int) × Int := bvM (atM n n n D i i) (atM n n n D i ((i + 1 : Nat) : Int)) (atM n n n D ((i + 1 : Nat) : Int) i) (atM n n n D ((i + 1 : Nat) : Int) ((i + 1 : Nat) : Int))
def valC (n : Int) (D : List Int) (i : Nat) : List Int := if stB n D i = true then [atM n n n D i i, 0] else [(bvD n D i).1.1, (bvD n D i).1.2.1, (bvD n D i).1.2.2.1, (bvD n D i).1.2.2.2]
def valsL (n : Int) (D : List Int) (L : List Nat) : List Int := L.flatMap (valC n D)
def valsF (n : Int) (D : List Int) (g : Int) (L : List Nat) : Int := L.foldl (fun g i => if stB n D i = true then g else bits .or .u8 g (bvD n D i).2) g
noncomputable def valsM (n : Int) (D : List Int) : List Int := valsL n D ((blocksM n D).getD [])
noncomputable def valsG (n : Int) (D : List Int) : Int := valsF n D 0 ((blocksM n D).getD [])
theorem valsL_st {n : Int} {D : List Int} {L : List Nat} {x : Nat} (h : stB n D x = true) : valsL n D (L ++ [x]) = valsL n D L ++ [atM n n n D x x, 0] := by simp [valsL, valC, h]
theorem valsL_no {n : Int} {D : List Int} {L : List Nat} {x : Nat} (h : stB n D x = false) : valsL n D (L ++ [x]) = valsL n D L ++ [(bvD n D x).1.1, (bvD n D x).1.2.1, (bvD n D x).1.2.2.1, (bvD n D x).1.2.2.2] := by simp [valsL, valC, h]
theorem valsF_st {n : Int} {D : List Int} {L : List Nat} {x : Nat} {g : Int} (h : stB n D x = true) : valsF n D g (L ++ [x]) = valsF n D g L := by simp [valsF, List.foldl_append, h]
theorem valsF_no {n : Int} {D : List Int} {L : List Nat} {x : Nat} {g : Int} (h : stB n D x = false) : valsF n D g (L ++ [x]) = bits .or .u8 (valsF n D g L) (bvD n D x).2 := by simp [valsF, List.foldl_append, h]
theorem take_snoc {α : Type} {L : List α} {k : Nat} (hk : k < L.length) : L.take (k + 1) = L.take k ++ [L[k]] := List.take_succ_eq_append_getElem hk

end Go.Proofs.YtdbngjlhcjjhbaaGreatDoor.M

/- gimballaw19.Quasi: is a matrix quasi-triangular; Upper. -/
set_option linter.unusedSimpArgs false
set_option linter.unusedVariables false
set_option pp.deepTerms false
set_option pp.maxSteps 1500
set_option maxRecDepth 10000
set_option maxHeartbeats 8000000
namespace Go.Proofs.YtdbngjlhcjjhbaaGreatDoor.M
open Go Go.Proofs

def Qb (n : Int) (D : List Int) : Prop := ∀ k : Nat, ((k + 1 : Nat) : Int) < n → ¬ kindM (atM n n n D ((k + 1 : Nat) : Int) k) = 1 → pbB n D k = true
theorem blk_some {n : Int} {D : List Int} : ∀ {f i : Nat}, n ≤ (i : Int) + f → ((blk n D f i).isSome = true ↔ ∀ k : Nat, i ≤ k → ((k + 1 : Nat) : Int) < n → ¬ kindM (atM n n n D ((k + 1 : Nat) : Int) k) = 1 → pbB n D k = true)
  | 0, i, h => by
    simp only [blk, Option.isSome_some, true_iff]
    intro k hk hn; omega
  | f + 1, i, h => by
    by_cases hi : (i : Int) < n
    · cases hs : stB n D i with
      | true =>
        rw [blk_st hi hs, Option.isSome_map, blk_some (i := i + 1) (by omega)]
        constructor
        · intro hh k hk hn hz
          by_cases e : k = i
          · subst e
            unfold stB at hs
            simp only [Bool.or_eq_true, decide_eq_true_eq] at hs
            rcases hs with hs | hs
            · omega
            · exact absurd hs hz
          · exact hh k (by omega) hn hz
        · intro hh k hk hn hz
          exact hh k (by omega) hn hz
      | false =>
        have hs2 := hs
        unfold stB at hs2
        simp only [Bool.or_eq_false_iff, decide_eq_false_iff_not] at hs2
        cases hp : pbB n D i with
        | true =>
          rw [blk_pb hi hs hp, Option.isSome_map, blk_some (i := i + 2) (by omega)]
          constructor
          · intro hh k hk hn hz
            by_cases e : k = i
            · subst e; exact hp
            · by_cases e2 : k = i + 1
              · subst e2
                unfold pbB at hp
                simp only [Bool.and_eq_true, Bool.not_eq_true', Bool.and_eq_false_iff, decide_eq_false_iff_not] at hp
                rcases hp.2 with h1 | h1
                · exact absurd hn h1
                · simp only [Bool.not_eq_false', decide_eq_true_eq] at h1
                  exact absurd h1 hz
              · exact hh k (by omega) hn hz
          · intro hh k hk hn hz
            exact hh k (by omega) hn hz
        | false =>
          rw [blk_no hi hs hp]
          simp only [Option.isSome_none, Bool.false_eq_true, false_iff]
          intro hh
          have := hh i (Nat.le_refl _) (by omega) hs2.2
          rw [hp] at this; cases this
    · rw [blk_end hi]
      simp only [Option.isSome_some, true_iff]
      intro k hk hn; omega
theorem blocks_some {n : Int} {D : List Int} (hn : 0 ≤ n) : (blocksM n D).isSome = bo (IsH n n D ∧ Qb n D) := by
  symm
  apply bo_of
  unfold blocksM
  by_cases hI : IsH n n D
  · rw [if_pos (bo_t hI), blk_some (by omega)]
    exact ⟨fun hh => ⟨hI, fun k => hh k (Nat.zero_le _)⟩, fun hh k _ => hh.2 k⟩
  · rw [if_neg (by rw [bo_f hI]; decide)]
    simp [hI]

theorem pb_iff {n : Int} {D : List Int} {i : Nat} (hz : Hid2 (∀ i k : Int, kindM (atM n n n D i k) = 1 ↔ absM (atM n n n D i k) = 0)) (hc : ¬ absM (atM n n n D ((i + 1 : Nat) : Int) i) = 0) : pbB n D i = true ↔
    atM n n n D ((i + 1 : Nat) : Int) ((i + 1 : Nat) : Int) = atM n n n D i i ∧ ¬ absM (atM n n n D i ((i + 1 : Nat) : Int)) = 0 ∧ ¬ negM (atM n n n D i ((i + 1 : Nat) : Int)) = negM (atM n n n D ((i + 1 : Nat) : Int) i) ∧ (((i + 2 : Nat) : Int) < n → absM (atM n n n D ((i + 2 : Nat) : Int) ((i + 1 : Nat) : Int)) = 0) := by
  unfold pbB plainM
  have hz : ∀ i k : Int, kindM (atM n n n D i k) = 1 ↔ absM (atM n n n D i k) = 0 := hz
  simp only [hz, hc, decide_false, Bool.false_or, Bool.and_eq_true, decide_eq_true_eq, bne_iff_ne, ne_eq, Bool.not_eq_true', Bool.and_eq_false_iff, decide_eq_false_iff_not, Bool.not_eq_false']
  constructor
  · rintro ⟨⟨⟨h1, h2⟩, h3⟩, h4⟩
    exact ⟨h1.symm, h2, h3, fun h => h4.resolve_left (fun h5 => h5 h)⟩
  · rintro ⟨h1, h2, h3, h4⟩
    refine ⟨⟨⟨h1.symm, h2⟩, h3⟩, ?_⟩
    by_cases h : ((i + 2 : Nat) : Int) < n
    · exact .inr (h4 h)
    · exact .inl h
theorem quasi_spec {n : Int} {p z : Nat} {D : List Int} (h : MatOk n n D) (hI : InD D) {N : Nat} (hN : D.length = N) {H : MH} {rw : Bool} (hp : hget H p = some ⟨D.map u64, rw⟩) :
    Spec Tryz.prog 20 [mx n n n p N z, i64 0] H fun v H' => v = bl (bo (IsH n n D ∧ Qb n D)) ∧ H' = H := by
  have hpl := lt_of_hget hp
  have hr := h.r1
  have hr0 := h.r0
  have hz : Hid2 (∀ i k : Int, kindM (atM n n n D i k) = 1 ↔ absM (atM n n n D i k) = 0) := fun i k => kind_zero (atM_in hI _ _ _ _ _)
  refine Spec.scalar (enterS Tryz.func20 [.tmp 4] ?_)
  repeat' first | (with_reducible (show W _ _ _ _ _); with_reducible refine go2 ?_) | (with_reducible (show W _ _ _ _ _); with_reducible refine sg2 ?_ ?_ <;> intro _) | (with_reducible (show W _ _ _ _ _); with_reducible refine sc2 ?_ ?_ <;> intro _) | (with_reducible (show W _ _ (.code (.region 16 _ true) :: _) _ _); with_reducible refine W_draw [(0, []), (1, []), (2, []), (4, []), (5, []), (6, []), (7, []), (8, []), (3, [4]), (9, []), (10, []), (11, []), (12, []), (13, []), (14, []), (15, []), (16, []), (17, []), (19, []), (20, []), (21, []), (22, []), (18, [19]), (23, []), (24, []), (25, []), (26, [])] [4, 19] (by kernel_rfl) ?_)
  refine W_for (fun j ρ H' => ∃ i : Nat, i + j = n.toNat ∧ Hid2 (∀ i' k : Nat, i' < i → (i' : Int) < n → (k : Int) < n → k + 2 ≤ i' → kindM (atM n n n D i' k) = 1) ∧ ρ 1 = i64 0 ∧ ρ 2 = .ptr H.length 0 ∧ ρ 5 = i64 i ∧ H' = H ++ [some ⟨[i64 n, i64 n, i64 n, .slice p 0 N z 1], true⟩]) n.toNat ?_ ?_
  · refine ⟨0, by omega, fun i' k h1 h2 h3 h4 => by omega, ?_⟩
    simp [put, args0]
  rintro j ρ H' ⟨i, hi, hall, h1, h2, h5, rfl⟩
  repeat' first | (with_reducible (show W _ _ _ _ _); with_reducible refine go2 ?_) | (with_reducible (show W _ _ _ _ _); with_reducible refine sg2 ?_ ?_ <;> intro _) | (with_reducible (show W _ _ _ _ _); with_reducible refine sc2 ?_ ?_ <;> intro _) | (with_reducible (show W _ _ (.code (.region 16 _ true) :: _) _ _); with_reducible refine W_draw [(0, []), (1, []), (2, []), (4, []), (5, []), (6, []), (7, []), (8, []), (3, [4]), (9, []), (10, []), (11, []), (12, []), (13, []), (14, []), (15, []), (16, []), (17, []), (19, []), (20, []), (21, []), (22, []), (18, [19]), (23, []), (24, []), (25, []), (26, [])] [4, 19] (by kernel_rfl) ?_)
  · rename_i hlt
    have e5 : IntKind.i64.wrap ((i : Int) - 1) = (i : Int) - 1 := wrap_i64 (by omega)
    refine W_for (fun j' ρ H' => ∃ k : Nat, k + j' = n.toNat ∧ Hid2 (∀ k' : Nat, k' < k → (k' : Int) < n → k' + 2 ≤ i → kindM (atM n n n D i k') = 1) ∧ ρ 1 = i64 0 ∧ ρ 2 = .ptr H.length 0 ∧ ρ 5 = i64 i ∧ ρ 6 = i64 k ∧ H' = H ++ [some ⟨[i64 n, i64 n, i64 n, .slice p 0 N z 1], true⟩]) n.toNat ?_ ?_
    · refine ⟨0, by omega, fun k' hk => by omega, ?_⟩
      simp [put, *]
    clear h1 h2 h5
    rintro j' ρ' H' ⟨k, hk, hrow, h1, h2, h5, h6, rfl⟩
    have e4 : (k : Int) < (i : Int) - 1 → IntKind.i64.wrap ((k : Int) + 1) = ((k + 1 : Nat) : Int) := fun h => by rw [wrap_i64 (by omega)]; omega
    have e3 : IntKind.i64.wrap ((i : Int) + 1) = ((i + 1 : Nat) : Int) := by rw [wrap_i64 (by omega)]; omega
    repeat' first | (with_reducible (show W _ _ _ _ _); with_reducible refine go2 ?_) | (with_reducible (show W _ _ _ _ _); with_reducible refine sg2 ?_ ?_ <;> intro _) | (with_reducible (show W _ _ _ _ _); with_reducible refine sc2 ?_ ?_ <;> intro _) | (with_reducible (show CallK _ _ _ _ _ _ _ _ _ _ _); with_reducible refine ce2 (at_ok h _ _ ((hget_old hpl).trans hp) hN) ?_) | (with_reducible (show CallK _ _ _ _ _ _ _ _ _ _ _); with_reducible refine ce2 (abs_spec _ _) ?_) | (with_reducible (show W _ _ (.code (.region 16 _ true) :: _) _ _); with_reducible refine W_draw [(0, []), (1, []), (2, []), (4, []), (5, []), (6, []), (7, []), (8, []), (3, [4]), (9, []), (10, []), (11, []), (12, []), (13, []), (14, []), (15, []), (16, []), (17, []), (19, []), (20, []), (21, []), (22, []), (18, [19]), (23, []), (24, []), (25, []), (26, [])] [4, 19] (by kernel_rfl) ?_)
    · rename_i a1 a2
      rw [bo_f fun hQ => a2 ((hz _ _).1 (hQ.1 i k hlt (by omega) (by omega)))]
    · rename_i a1 a3
      refine ⟨j' - 1, by omega, k + 1, by omega, fun k' hk' hc' hk2 => ?_, rfl⟩
      by_cases e : k' = k
      · subst e; exact (hz _ _).2 a3
      · exact hrow k' (by omega) hc' hk2
    · rename_i a2
      refine ⟨j - 1, by omega, i + 1, by omega, fun i' k' hi' hr' hc' hk2 => ?_, rfl⟩
      by_cases e : i' = i
      · subst e; exact hrow k' (by omega) hc' hk2
      · exact hall i' k' (by omega) hr' hc' hk2
  · rename_i hge
    have hIs : Hid2 (IsH n n D) := fun i' k hr' hc' hk2 => hall i' k (by omega) hr' hc' hk2
    have z1 : IntKind.i64.wrap (0 + 1) = 1 := by decide
    clear hall
    refine W_for (fun j' ρ H' => ∃ i : Nat, i + j' = n.toNat ∧ Hid2 (∀ k : Nat, k < i → ((k + 1 : Nat) : Int) < n → ¬ kindM (atM n n n D ((k + 1 : Nat) : Int) k) = 1 → pbB n D k = true) ∧ ρ 2 = .ptr H.length 0 ∧ ρ 7 = i64 ((i + 1 : Nat) : Int) ∧ H' = H ++ [some ⟨[i64 n, i64 n, i64 n, .slice p 0 N z 1], true⟩]) n.toNat ?_ ?_
    · refine ⟨0, by omega, fun k hk => by omega, ?_⟩
      simp [put, h2]
      decide
    clear h1 h2 h5 hi
    rintro j' ρ' H' ⟨i, hi, hall, h2, h7, rfl⟩
    have e1 : ((i + 1 : Nat) : Int) < n → IntKind.i64.wrap (((i + 1 : Nat) : Int) + 1) = ((i + 2 : Nat) : Int) := fun h => by rw [wrap_i64 (by omega)]; omega
    have e2 : ((i + 1 : Nat) : Int) < n → IntKind.i64.wrap (((i + 1 : Nat) : Int) - 1) = (i : Int) := fun h => by rw [wrap_i64 (by omega)]; omega
    repeat' first | (with_reducible (show W _ _ _ _ _); with_reducible refine go2 ?_) | (with_reducible (show W _ _ _ _ _); with_reducible refine sg2 ?_ ?_ <;> intro _) | (with_reducible (show W _ _ _ _ _); with_reducible refine sc2 ?_ ?_ <;> intro _) | (with_reducible (show CallK _ _ _ _ _ _ _ _ _ _ _); with_reducible refine ce2 (at_ok h _ _ ((hget_old hpl).trans hp) hN) ?_) | (with_reducible (show CallK _ _ _ _ _ _ _ _ _ _ _); with_reducible refine ce2 (abs_spec _ _) ?_) | (with_reducible (show CallK _ _ _ _ _ _ _ _ _ _ _); with_reducible refine ce2 (neg_spec _ _) ?_) | (with_reducible (show W _ _ (.code (.region 16 _ true) :: _) _ _); with_reducible refine W_draw [(0, []), (1, []), (2, []), (4, []), (5, []), (6, []), (7, []), (8, []), (3, [4]), (9, []), (10, []), (11, []), (12, []), (13, []), (14, []), (15, []), (16, []), (17, []), (19, []), (20, []), (21, []), (22, []), (18, [19]), (23, []), (24, []), (25, []), (26, [])] [4, 19] (by kernel_rfl) ?_)
    all_goals try have hpb := pb_iff (i := i) hz ‹_›
    all_goals first
      | (rw [bo_f fun hQ => ?_]
         have h3 := hpb.1 (hQ.2 i ‹_› fun h => absurd ((hz _ _).1 h) ‹_›)
         clear hz hIs hall hQ hpb
         simp_all; done)
      | (refine ⟨j' - 1, by omega, i + 1, by omega, fun k hk hn hk1 => ?_, rfl⟩
         by_cases e : k = i
         · subst e
           first
             | exact absurd ((hz _ _).2 ‹_›) hk1
             | (rw [hpb]; clear hz hIs hall hpb; simp_all; done)
             | (rename_i b1 b2 b3 b4 b5 b6; rw [hpb]; exact ⟨by simpa using b4, b5, by simpa using b6, fun h => absurd h b3⟩)
         · exact hall k (by omega) hn hk1)
      | skip
    rename_i a1
    rw [bo_t (p := IsH n n D ∧ Qb n D) ⟨hIs, fun k hk => hall k (by omega) hk⟩]

theorem upper_spec (n0 : Nat) (hn7 : n0 ≤ 7) {v : MV} {xs : List Int} {H : MH} (hv : Sl H v xs) (hI : InD xs) (ups : Int) {N : Nat} (hN : n0 * n0 = N) :
    Spec Tryz.prog 7 [i64 (n0 : Int), v, u64 ups] H fun u H' => ∃ E : List Int, (MatOk n0 n0 E ∧ InD E) ∧ u = mx n0 n0 n0 H.length N N ∧ H' = H ++ [some ⟨E.map u64, true⟩] := by
  have hlen := len22 hv
  have h40 : 0 ≤ (n0 : Int) ∧ (n0 : Int) ≤ 4096 := by omega
  have hNN : ((n0 : Int) * n0).toNat = N := by rw [← hN]; exact_mod_cast Int.toNat_natCast (n0 * n0)
  refine Spec.oneX (G := fun E : List Int => MatOk n0 n0 E ∧ InD E) (v := fun _ p => mx n0 n0 n0 p N N) (cs := fun E => E.map u64) (fun _ => closed_u64 _) (fun _ p => by simp [Cl, Cls']) (fun _ π p _ => by simp [ren, rens]) ?_
  refine enterS Tryz.func7 [.cell 6 25] ?_
  have hnew : ∀ H, Spec Tryz.prog 13 [i64 (n0 : Int), i64 (n0 : Int)] H fun v H' => v = mx n0 n0 n0 H.length N N ∧ H' = H ++ [some ⟨(List.replicate N 0).map u64, true⟩] := fun H => by have := new_spec _ _ h40 h40 H; rw [hNN, map_rep] at this; exact this
  repeat' first | (with_reducible (show W _ _ _ _ _); with_reducible refine go2 ?_) | (with_reducible (show W _ _ _ _ _); with_reducible refine sg2 ?_ ?_ <;> intro _) | (with_reducible (show W _ _ _ _ _); with_reducible refine sc2 ?_ ?_ <;> intro _) | (with_reducible (show W _ _ (.code (.region 9 _ true) :: _) _ _); with_reducible refine W_draw [(0, []), (1, []), (2, []), (3, []), (4, []), (5, []), (6, []), (7, []), (8, []), (9, []), (10, []), (11, []), (12, []), (13, []), (14, [])] [] (by kernel_rfl) ?_) | (with_reducible (show W _ _ (.code (.region 15 _ true) :: _) _ _); with_reducible refine W_draw [(0, []), (1, []), (2, []), (3, []), (4, []), (5, []), (6, []), (7, []), (8, [0]), (9, [])] [0] (by kernel_rfl) ?_) | (with_reducible (show W _ _ (.code (.region 19 _ true) :: _) _ _); with_reducible refine W_draw [(0, []), (1, []), (2, []), (3, []), (4, []), (5, []), (6, [0]), (7, [0]), (8, [])] [0] (by kernel_rfl) ?_) | ((with_reducible (show CallK _ _ _ _ _ _ _ _ _ _ _); with_reducible refine cm2 (hnew _) ?_))
  have hia2 : ∀ k : Nat, k < xs.length → iaV (.slice 1 8 (some [.int .u64 0]) true) v (.lit (.int .i64 k)) = some (ixq v k) := fun k h => hv.ia h _ _ _ _
  have hld2 : ∀ (L : MH) (k : Nat), k < xs.length → loadV Tryz.prog 27 (ixq v k) (H ++ L) = some (u64 (xs.getD k 0)) := fun L k h => (hv.app L).ld (by rw [ty_27]) (by rw [ty_27]) h
  have hzero : MatOk n0 n0 (List.replicate N 0) := by have := MatOk.zero h40 h40; rw [hNN] at this; exact this
  refine W_for (fun j ρ H' => ∃ (i : Nat) (E : List Int), i + j = n0 ∧ MatOk n0 n0 E ∧ InD E ∧ ρ 0 = i64 (n0 : Int) ∧ ρ 1 = v ∧ ρ 2 = u64 ups ∧ ρ 6 = .ptr H.length 0 ∧ ρ 7 = .ptr (H.length + 2) 0 ∧ ρ 8 = i64 i ∧
    H' = H ++ [some ⟨[i64 0, i64 0, i64 0, nils], true⟩, some ⟨E.map u64, true⟩, some ⟨[i64 n0, i64 n0, i64 n0, .slice (H.length + 1) 0 N N 1], true⟩]) n0 ?_ ?_
  · refine ⟨0, List.replicate N 0, by omega, hzero, InD.rep N, ?_⟩
    simp [put, args0]
  rintro j ρ H' ⟨i, E, hi, hE, hEI, h0, h1, h2, h6, h7, h8, rfl⟩
  repeat' first | (with_reducible (show W _ _ _ _ _); with_reducible refine go2 ?_) | (with_reducible (show W _ _ _ _ _); with_reducible refine sg2 ?_ ?_ <;> intro _) | (with_reducible (show W _ _ _ _ _); with_reducible refine sc2 ?_ ?_ <;> intro _) | (with_reducible (show W _ _ (.code (.region 9 _ true) :: _) _ _); with_reducible refine W_draw [(0, []), (1, []), (2, []), (3, []), (4, []), (5, []), (6, []), (7, []), (8, []), (9, []), (10, []), (11, []), (12, []), (13, []), (14, [])] [] (by kernel_rfl) ?_) | (with_reducible (show W _ _ (.code (.region 15 _ true) :: _) _ _); with_reducible refine W_draw [(0, []), (1, []), (2, []), (3, []), (4, []), (5, []), (6, []), (7, []), (8, [0]), (9, [])] [0] (by kernel_rfl) ?_) | (with_reducible (show W _ _ (.code (.region 19 _ true) :: _) _ _); with_reducible refine W_draw [(0, []), (1, []), (2, []), (3, []), (4, []), (5, []), (6, [0]), (7, [0]), (8, [])] [0] (by kernel_rfl) ?_)
  · rename_i hlt
    refine W_for (fun j' ρ H' => ∃ (k : Nat) (E : List Int), k + j' = n0 ∧ MatOk n0 n0 E ∧ InD E ∧ ρ 0 = i64 (n0 : Int) ∧ ρ 1 = v ∧ ρ 2 = u64 ups ∧ ρ 6 = .ptr H.length 0 ∧ ρ 7 = .ptr (H.length + 2) 0 ∧ ρ 8 = i64 i ∧ ρ 9 = i64 k ∧
      H' = H ++ [some ⟨[i64 0, i64 0, i64 0, nils], true⟩, some ⟨E.map u64, true⟩, some ⟨[i64 n0, i64 n0, i64 n0, .slice (H.length + 1) 0 N N 1], true⟩]) (n0 - i) ?_ ?_
    · refine ⟨i, E, by omega, hE, hEI, ?_⟩
      simp [put, *]
    clear h0 h1 h2 h6 h7 h8 hE hEI E
    rintro j' ρ' H' ⟨k, E, hk, hE, hEI, h0, h1, h2, h6, h7, h8, h9, rfl⟩
    have hEl : E.length = N := hE.len.trans hNN
    have em : IntKind.i64.wrap ((i : Int) * n0) = ((i * n0 : Nat) : Int) := by
      have : i * n0 ≤ 7 * 7 := Nat.mul_le_mul (by omega) hn7
      rw [← Int.natCast_mul, wrap_i64 (by omega)]
    have ea : (k : Int) < n0 → IntKind.i64.wrap (((i * n0 : Nat) : Int) + k) = ((i * n0 + k : Nat) : Int) := fun h => by
      have : i * n0 ≤ 7 * 7 := Nat.mul_le_mul (by omega) hn7
      rw [wrap_i64 (by omega)]; omega
    have f1 : 0 < (xs.length : Int) → ((xs.length : Int) = 0) = False := fun h => eq_false (by omega)
    have f2 : ((i * n0 + k : Nat) : Int).tmod xs.length = (((i * n0 + k) % xs.length : Nat) : Int) := tmod_nat _ _
    have f3 : 0 < (xs.length : Int) → iaV (.slice 1 8 (some [.int .u64 0]) true) v (.lit (.int .i64 (((i * n0 + k) % xs.length : Nat) : Int))) = some (ixq v ((i * n0 + k) % xs.length)) := fun h => hia2 _ (Nat.mod_lt _ (by omega))
    have f4 : ∀ L, 0 < (xs.length : Int) → loadV Tryz.prog 27 (ixq v ((i * n0 + k) % xs.length)) (H ++ L) = some (u64 (xs.getD ((i * n0 + k) % xs.length) 0)) := fun L h => hld2 _ _ (Nat.mod_lt _ (by omega))
    have ek : (k : Int) < n0 → IntKind.i64.wrap ((k : Int) + 1) = ((k + 1 : Nat) : Int) := fun h => by rw [wrap_i64 (by omega)]; omega
    have ei : IntKind.i64.wrap ((i : Int) + 1) = ((i + 1 : Nat) : Int) := by rw [wrap_i64 (by omega)]; omega
    repeat' first | (with_reducible (show W _ _ _ _ _); with_reducible refine go2 ?_) | (with_reducible (show W _ _ _ _ _); with_reducible refine sg2 ?_ ?_ <;> intro _) | (with_reducible (show W _ _ _ _ _); with_reducible refine sc2 ?_ ?_ <;> intro _) | (with_reducible (show W _ _ (.code (.region 9 _ true) :: _) _ _); with_reducible refine W_draw [(0, []), (1, []), (2, []), (3, []), (4, []), (5, []), (6, []), (7, []), (8, []), (9, []), (10, []), (11, []), (12, []), (13, []), (14, [])] [] (by kernel_rfl) ?_) | (with_reducible (show W _ _ (.code (.region 15 _ true) :: _) _ _); with_reducible refine W_draw [(0, []), (1, []), (2, []), (3, []), (4, []), (5, []), (6, []), (7, []), (8, [0]), (9, [])] [0] (by kernel_rfl) ?_) | (with_reducible (show W _ _ (.code (.region 19 _ true) :: _) _ _); with_reducible refine W_draw [(0, []), (1, []), (2, []), (3, []), (4, []), (5, []), (6, [0]), (7, [0]), (8, [])] [0] (by kernel_rfl) ?_) | ((with_reducible (show CallK _ _ _ _ _ _ _ _ _ _ _); with_reducible refine cm2 (set_ok hE _ _ _ (hget_newL rfl) hEl) ?_))
    · exact ⟨j' - 1, by omega, k + 1, _, by omega, hE.set _ _ _, hEI.setm _ _ _ _ _ (getD_in hI _), rfl, rfl⟩
    · exact ⟨j' - 1, by omega, k + 1, E, by omega, hE, hEI, rfl, rfl⟩
    · exact ⟨j - 1, by omega, i + 1, E, by omega, hE, hEI, rfl, rfl⟩
  · rename_i hge
    refine W_for (fun j' ρ H' => ∃ (i : Nat) (E : List Int), i + j' = n0 + 1 ∧ MatOk n0 n0 E ∧ InD E ∧ ρ 0 = i64 (n0 : Int) ∧ ρ 1 = v ∧ ρ 2 = u64 ups ∧ ρ 6 = .ptr H.length 0 ∧ ρ 7 = .ptr (H.length + 2) 0 ∧ ρ 10 = i64 i ∧
      H' = H ++ [some ⟨[i64 0, i64 0, i64 0, nils], true⟩, some ⟨E.map u64, true⟩, some ⟨[i64 n0, i64 n0, i64 n0, .slice (H.length + 1) 0 N N 1], true⟩]) (n0 + 1) ?_ ?_
    · refine ⟨0, E, by omega, hE, hEI, ?_⟩
      simp [put, *]
    clear h0 h1 h2 h6 h7 h8 hE hEI E hi
    rintro j' ρ' H' ⟨i, E, hi, hE, hEI, h0, h1, h2, h6, h7, h10, rfl⟩
    have hEl : E.length = N := hE.len.trans hNN
    have hshr : ∀ x, ¬ IntKind.u64.wrap x < 0 := fun x => by have := (wrap_inU x).1; omega
    have f1 : 0 < (xs.length : Int) → ((xs.length : Int) = 0) = False := fun h => eq_false (by omega)
    have f2 : (i : Int).tmod xs.length = ((i % xs.length : Nat) : Int) := tmod_nat _ _
    have f3 : 0 < (xs.length : Int) → iaV (.slice 1 8 (some [.int .u64 0]) true) v (.lit (.int .i64 ((i % xs.length : Nat) : Int))) = some (ixq v (i % xs.length)) := fun h => hia2 _ (Nat.mod_lt _ (by omega))
    have f4 : ∀ L, 0 < (xs.length : Int) → loadV Tryz.prog 27 (ixq v (i % xs.length)) (H ++ L) = some (u64 (xs.getD (i % xs.length) 0)) := fun L h => hld2 _ _ (Nat.mod_lt _ (by omega))
    have ei : IntKind.i64.wrap ((i : Int) + 1) = ((i + 1 : Nat) : Int) := by rw [wrap_i64 (by omega)]; omega
    have ei2 : IntKind.i64.wrap (((i + 1 : Nat) : Int) + 1) = ((i + 2 : Nat) : Int) := by rw [wrap_i64 (by omega)]; omega
    have hdata : ∀ (a : Option MO) (L : MH), hget (H ++ a :: some ⟨E.map u64, true⟩ :: L) (H.length + 1) = some ⟨E.map u64, true⟩ := fun a L => hget_newL rfl
    have hE2 : MatOk n0 n0 (setM n0 n0 n0 E ((i + 1 : Nat) : Int) ((i + 1 : Nat) : Int) (atM n0 n0 n0 E i i)) := hE.set _ _ _
    have hEI2 : InD (setM n0 n0 n0 E ((i + 1 : Nat) : Int) ((i + 1 : Nat) : Int) (atM n0 n0 n0 E i i)) := hEI.setm _ _ _ _ _ (atM_in hEI _ _ _ _ _)
    have hEl2 := hE2.len.trans hNN
    repeat' first | (with_reducible (show W _ _ _ _ _); with_reducible refine go2 ?_) | (with_reducible (show W _ _ _ _ _); with_reducible refine sg2 ?_ ?_ <;> intro _) | (with_reducible (show W _ _ _ _ _); with_reducible refine sc2 ?_ ?_ <;> intro _) | (with_reducible (show CallK _ _ _ _ _ _ _ _ _ _ _); with_reducible refine ce2 (at_ok hE _ _ (hdata _ _) hEl) ?_) | (with_reducible (show CallK _ _ _ _ _ _ _ _ _ _ _); with_reducible refine ce2 (abs_spec _ _) ?_) | (with_reducible (show CallK _ _ _ _ _ _ _ _ _ _ _); with_reducible refine ce2 (kind_spec _ _) ?_) | (with_reducible (show CallK _ _ _ _ _ _ _ _ _ _ _); with_reducible refine ce2 (sign_spec _ _ _) ?_) | (with_reducible (show CallK _ _ _ _ _ _ _ _ _ _ _); with_reducible refine ce2 (flip_spec _ _) ?_) | (with_reducible (show W _ _ (.code (.region 9 _ true) :: _) _ _); with_reducible refine W_draw [(0, []), (1, []), (2, []), (3, []), (4, []), (5, []), (6, []), (7, []), (8, []), (9, []), (10, []), (11, []), (12, []), (13, []), (14, [])] [] (by kernel_rfl) ?_) | (with_reducible (show W _ _ (.code (.region 15 _ true) :: _) _ _); with_reducible refine W_draw [(0, []), (1, []), (2, []), (3, []), (4, []), (5, []), (6, []), (7, []), (8, [0]), (9, [])] [0] (by kernel_rfl) ?_) | (with_reducible (show W _ _ (.code (.region 19 _ true) :: _) _ _); with_reducible refine W_draw [(0, []), (1, []), (2, []), (3, []), (4, []), (5, []), (6, [0]), (7, [0]), (8, [])] [0] (by kernel_rfl) ?_) | ((with_reducible (show CallK _ _ _ _ _ _ _ _ _ _ _); first | (with_reducible refine cm2 (set_ok hE _ _ _ (hdata _ _) hEl) ?_) | (with_reducible refine cm2 (set_ok hE2 _ _ _ (hget_newL rfl) hEl2) ?_)))
    all_goals first
      | exact ⟨j' - 2, by omega, i + 2, _, by omega, hE2.set _ _ _, hEI2.setm _ _ _ _ _ (flip_in _), rfl, rfl⟩
      | exact ⟨j' - 1, by omega, i + 1, E, by omega, hE, hEI, rfl, rfl⟩
      | exact ⟨E, H.length + 1, ⟨hE, hEI⟩, rfl, by omega, hget_newL rfl, (Old.refl H).app _⟩
end Go.Proofs.YtdbngjlhcjjhbaaGreatDoor.M
