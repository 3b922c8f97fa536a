/- The pair of shifts; a matrix of Hessenberg's form, of patterns. -/
import Derived.Test.YthkafhjfaekaiaaC13
set_option linter.unusedSimpArgs false
set_option linter.unusedVariables false
set_option maxRecDepth 10000
set_option maxHeartbeats 8000000
namespace Go.Proofs.Ythkafhjfaekaiaa.M
open Go Go.Proofs

/-- All are patterns. -/
def InD (D : List Int) : Prop := ∀ x ∈ D, InU x
theorem abs_in (b : Int) : InU (absM b) := bits_inU _ _ _
theorem zero_in : InU 0 := by constructor <;> omega
theorem getD_in {D : List Int} (h : InD D) (i : Nat) : InU (D.getD i 0) := by
  rw [List.getD_eq_getElem?_getD]
  cases hi : D[i]? with
  | none => exact zero_in
  | some x => exact h x (List.mem_of_getElem? hi)
theorem atM_in {D : List Int} (h : InD D) (r c s i k : Int) : InU (atM r c s D i k) := by
  unfold atM
  split
  · exact getD_in h _
  · exact quiet_in
theorem InD.set {D : List Int} (h : InD D) (i : Nat) {b : Int} (hb : InU b) : InD (D.set i b) := by
  intro x hx
  rcases List.mem_or_eq_of_mem_set hx with h1 | h1
  · exact h x h1
  · rw [h1]; exact hb
theorem InD.setm {D : List Int} (h : InD D) (r c s i k : Int) {b : Int} (hb : InU b) : InD (setM r c s D i k b) := by
  unfold M.setM
  split
  · exact h.set _ hb
  · exact h
theorem InD.rep (n : Nat) : InD (List.replicate n 0) := fun x hx => by rw [List.eq_of_mem_replicate hx]; exact zero_in

/-- Where a slice's number lies. -/
def ixq (v : MV) (j : Nat) : MV := match v with
  | .slice p o _ _ _ => .ptr p (o + j * 1)
  | _ => default
theorem Sl.ia {H : MH} {v : MV} {xs : List Int} (h : Sl H v xs) {j : Nat} (hj : j < xs.length) (e : Nat) (z : Option (List Value)) (b : Bool) (k : IntKind) : iaV (.slice 1 e z b) v (.lit (.int k j)) = some (ixq v j) := by
  rcases h with ⟨rfl, a, rfl⟩ | ⟨p, o, c, ob, rfl, hp, hcell⟩
  · simp at hj
  · rw [iaV_slice, if_pos ⟨by omega, by omega⟩]
    simp [ixq]
theorem Sl.ld {P : Program} {t : TypeId} (hk : (ty P t).known = true) (ha : (ty P t).agg = false) {H : MH} {v : MV} {xs : List Int} (h : Sl H v xs) {j : Nat} (hj : j < xs.length) : loadV P t (ixq v j) H = some (u64 (xs.getD j 0)) := by
  rcases h with ⟨rfl, a, rfl⟩ | ⟨p, o, c, ob, rfl, hp, hcell⟩
  · simp at hj
  · simp only [ixq, loadV, hk, ha, if_true, Bool.false_eq_true, if_false, hp, Option.bind_some, Nat.mul_one]
    exact hcell j hj

def usualM (n : Int) (D : List Int) (h : Int) : Int × Int :=
  let a := atM n n n D (IntKind.i64.wrap (h - 2)) (IntKind.i64.wrap (h - 2))
  let b := atM n n n D (IntKind.i64.wrap (h - 2)) (IntKind.i64.wrap (h - 1))
  let x := atM n n n D (IntKind.i64.wrap (h - 1)) (IntKind.i64.wrap (h - 2))
  let d := atM n n n D (IntKind.i64.wrap (h - 1)) (IntKind.i64.wrap (h - 1))
  ((addM a d).1, (addM (mulM a d).1 (flipM (mulM b x).1)).1)
theorem usual_spec {n : Int} {p : Nat} {D : List Int} (hD : MatOk n n D) (hI : InD D) (h : Int) {H : MH} {rw : Bool} (hp : hget H p = some ⟨D.map u64, rw⟩) {N z : Nat} (hN : D.length = N) :
    Spec Try.prog 24 [mx n n n p N z, i64 h] H fun v H' => v = .agg [u64 (usualM n D h).1, u64 (usualM n D h).2] ∧ H' = H := by
  have hpl := lt_of_hget hp
  have hat := fun i k => atM_in hI n n n i k
  refine Spec.scalar (enterS Try.func24 [.cell 4 61] ?_)
  repeat' first | (with_reducible (show W _ _ _ _ _); with_reducible refine go2 ?_) | (with_reducible (show W _ _ _ _ _); with_reducible refine sg2 ?_ ?_ <;> intro _) | (with_reducible (show W _ _ _ _ _); with_reducible refine sc2 ?_ ?_ <;> intro _) | (with_reducible (show W _ _ (.code (.region 2 _ true) :: _) _ _); with_reducible refine W_draw [(0, []), (1, []), (2, []), (3, []), (4, []), (6, []), (7, []), (8, []), (9, []), (10, []), (5, [6]), (11, []), (12, []), (13, [])] [6] (by kernel_rfl) ?_) | (with_reducible (show W _ _ (.code (.region 3 _ true) :: _) _ _); with_reducible refine W_draw [(0, []), (1, []), (2, []), (3, []), (4, []), (6, []), (7, []), (8, []), (9, []), (10, []), (5, [6]), (11, []), (12, []), (13, [])] [6] (by kernel_rfl) ?_) | ((with_reducible (show CallK _ _ _ _ _ _ _ _ _ _ _); (first | (with_reducible refine cn2 (at_ok hD _ _ ((hget_old hpl).trans hp) hN) (hat _ _) ?_) | (with_reducible refine cn2 (abs_spec _ _) (abs_in _) ?_) | (with_reducible refine cn2 (cmul_spec _ _ _ hget_new) (mulM_in _ _) ?_) | (with_reducible refine cn2 (cadd_spec (by assumption) (by assumption) _ hget_new) (addM_in (by assumption) (by assumption)) ?_) | (with_reducible refine cn2 (csub_spec (by assumption) _ _ hget_new) (addM_in (by assumption) (flip_in _)) ?_)); intro r hr er))
  all_goals simp only [Is] at *
  all_goals simp_all [usualM]

def otherM (n : Int) (D : List Int) (h : Int) : Int × Int :=
  let s := (addM (absM (atM n n n D (IntKind.i64.wrap (h - 1)) (IntKind.i64.wrap (h - 2)))) (absM (atM n n n D (IntKind.i64.wrap (h - 2)) (IntKind.i64.wrap (h - 3))))).1
  let x := (addM (mulM 4604930618986332160 s).1 (atM n n n D (IntKind.i64.wrap (h - 1)) (IntKind.i64.wrap (h - 1)))).1
  ((addM x x).1, (addM (mulM x x).1 (flipM (mulM 13824924956120580096 (mulM s s).1).1)).1)
theorem other_spec {n : Int} {p : Nat} {D : List Int} (hD : MatOk n n D) (hI : InD D) (h : Int) {H : MH} {rw : Bool} (hp : hget H p = some ⟨D.map u64, rw⟩) {N z : Nat} (hN : D.length = N) :
    Spec Try.prog 28 [mx n n n p N z, i64 h] H fun v H' => v = .agg [u64 (otherM n D h).1, u64 (otherM n D h).2] ∧ H' = H := by
  have hpl := lt_of_hget hp
  have hat := fun i k => atM_in hI n n n i k
  refine Spec.scalar (enterS Try.func28 [.cell 4 61] ?_)
  repeat' first | (with_reducible (show W _ _ _ _ _); with_reducible refine go2 ?_) | (with_reducible (show W _ _ _ _ _); with_reducible refine sg2 ?_ ?_ <;> intro _) | (with_reducible (show W _ _ _ _ _); with_reducible refine sc2 ?_ ?_ <;> intro _) | (with_reducible (show W _ _ (.code (.region 2 _ true) :: _) _ _); with_reducible refine W_draw [(0, []), (1, []), (2, []), (3, []), (4, []), (7, []), (8, []), (9, []), (10, []), (11, []), (5, [7]), (6, [7]), (12, []), (13, []), (14, []), (15, [])] [7] (by kernel_rfl) ?_) | (with_reducible (show W _ _ (.code (.region 3 _ true) :: _) _ _); with_reducible refine W_draw [(0, []), (2, []), (3, []), (4, []), (5, []), (6, []), (1, [2]), (7, []), (8, []), (9, [])] [2] (by kernel_rfl) ?_) | ((with_reducible (show CallK _ _ _ _ _ _ _ _ _ _ _); (first | (with_reducible refine cn2 (at_ok hD _ _ ((hget_old hpl).trans hp) hN) (hat _ _) ?_) | (with_reducible refine cn2 (abs_spec _ _) (abs_in _) ?_) | (with_reducible refine cn2 (cmul_spec _ _ _ hget_new) (mulM_in _ _) ?_) | (with_reducible refine cn2 (cadd_spec (by assumption) (by assumption) _ hget_new) (addM_in (by assumption) (by assumption)) ?_) | (with_reducible refine cn2 (csub_spec (by assumption) _ _ hget_new) (addM_in (by assumption) (flip_in _)) ?_)); intro r hr er))
  all_goals simp only [Is] at *
  all_goals simp_all [otherM]

/-- Only what is new is kept: of what kind it is alone is told. -/
theorem Spec.oneE {P : Program} {f : FuncId} {args : List MV} {H : MH} {T : Type} {G : T → Prop} {v : Nat → MV} {cs : T → List MV} {q : Nat} {J : T → MH} (hcs : ∀ t, ∀ c ∈ cs t, Cl 0 [] c) (hv : ∀ p, Cl H.length [p] (v p)) (hr : ∀ π p, H.length ≤ p → ren π (v p) = v (π p))
    (hq : ∀ t, (J t)[q]? = some (some ⟨cs t, true⟩)) (h : Spec P f args H fun u H' => ∃ t, G t ∧ u = v (H.length + q) ∧ H' = H ++ J t) : Spec P f args H fun u H' => ∃ t, G t ∧ u = v H.length ∧ H' = H ++ [some ⟨cs t, true⟩] := by
  refine Spec.gc h ?_
  rintro u H1 ⟨t, hG, rfl, rfl⟩
  have hg : hget (H ++ J t) (H.length + q) = some ⟨cs t, true⟩ := by
    unfold hget
    rw [List.getElem?_append_right (by omega)]
    have : H.length + q - H.length = q := by omega
    rw [this, hq]; rfl
  have hk : keep H.length [H.length + q] (H.length + q) = H.length := by
    unfold keep
    rw [if_neg (by omega)]
    simp
  refine ⟨H, J t, [H.length + q], rfl, rfl, by simp, by simp, fun p o ho => .inl ho, ?_, hv _, t, hG, ?_, ?_⟩
  · intro p hp o ho c hc
    simp only [List.mem_singleton] at hp
    subst hp
    rw [hg] at ho
    cases ho
    exact cl_more (cl_mono (Nat.zero_le H.length) c (hcs t c hc))
  · rw [hr _ _ (by omega), hk]
  · simp only [List.map_cons, List.map_nil, keptO, hg, Option.map_some]
    congr 3
    congr 1
    exact (List.map_congr_left fun c hc => ren_free c (hcs t c hc)).trans (List.map_id' _)

theorem tmod_nat (a b : Nat) : (a : Int).tmod (b : Int) = ((a % b : Nat) : Int) := (Int.ofNat_tmod a b).symm
theorem made18_spec {n : Int} (h : 0 ≤ n ∧ n ≤ 4096) {v : MV} {xs : List Int} {H : MH} (hv : Sl H v xs) (hI : InD xs) (holes : Int) {N : Nat} (hN : (n * n).toNat = N) :
    Spec Try.prog 23 [i64 n, v, u64 holes, i64 0, i64 n] H fun u H' => ∃ D : List Int, (MatOk n n D ∧ InD D) ∧ u = mx n n n H.length N N ∧ H' = H ++ [some ⟨D.map u64, true⟩] := by
  have hlen22 : lenV Try.prog 22 v = some (i64 (xs.length : Int)) := by
    rcases hv with ⟨rfl, a, rfl⟩ | ⟨p, o, c, ob, rfl, _, _⟩ <;> simp [lenV, ty_22]
  have hia : ∀ j : Nat, j < xs.length → iaV (.slice 1 8 (some [.int .u64 0]) true) v (.lit (.int .i64 j)) = some (ixq v j) := fun j hj => hv.ia hj _ _ _ _
  have hld : ∀ (j : Nat) (L : MH), j < xs.length → loadV Try.prog 23 (ixq v j) (H ++ L) = some (u64 (xs.getD j 0)) := fun j L hj => (hv.app L).ld (by rw [ty_23]) (by rw [ty_23]) hj
  have hshr : ∀ x, ¬ IntKind.u64.wrap x < 0 := fun x => by have := (wrap_inU x).1; omega
  refine Spec.oneE (T := List Int) (G := fun D => MatOk n n D ∧ InD D) (cs := fun D => D.map u64) (q := 1) (J := fun D => [some ⟨[i64 n, i64 n, i64 n, .slice (H.length + 1) 0 N N 1], true⟩, some ⟨D.map u64, true⟩, some ⟨[i64 n, i64 n, i64 n, .slice (H.length + 1) 0 N N 1], true⟩])
    (v := fun p => mx n n n p N N) (fun D => closed_u64 D) (fun p => by simp [Cl, Cls']) (fun π p _ => by simp [ren, rens]) (fun _ => rfl) ?_
  refine enterS Try.func23 [.cell 10 26] ?_
  repeat' first | (with_reducible (show W _ _ _ _ _); with_reducible refine go2 ?_) | (with_reducible (show W _ _ _ _ _); with_reducible refine sg2 ?_ ?_ <;> intro _) | (with_reducible (show W _ _ _ _ _); with_reducible refine sc2 ?_ ?_ <;> intro _) | (with_reducible (show W _ _ (.code (.region 9 _ true) :: _) _ _); with_reducible refine W_draw [(0, []), (1, []), (2, []), (3, []), (4, []), (5, []), (6, []), (7, []), (8, []), (9, []), (10, []), (11, []), (12, []), (13, []), (14, [])] [] (by kernel_rfl) ?_) | ((with_reducible (show CallK _ _ _ _ _ _ _ _ _ _ _); with_reducible refine cm2 (new_spec n n h h _) ?_))
  refine W_for (fun j ρ H' => ∃ (i : Nat) (D : List Int), (MatOk n n D ∧ InD D) ∧ i + j = n.toNat ∧ ρ 0 = i64 n ∧ ρ 1 = v ∧ ρ 2 = u64 holes ∧ ρ 3 = i64 0 ∧ ρ 4 = i64 n ∧ ρ 10 = .ptr H.length 0 ∧ ρ 11 = .ptr (H.length + 2) 0 ∧ ρ 12 = i64 i ∧
    H' = H ++ [some ⟨[i64 0, i64 0, i64 0, .lit (.slice none 0 0)], true⟩, some ⟨D.map u64, true⟩, some ⟨[i64 n, i64 n, i64 n, .slice (H.length + 1) 0 N N 1], true⟩]) n.toNat ?_ ?_
  · refine ⟨0, List.replicate (n * n).toNat 0, ⟨MatOk.zero h h, InD.rep _⟩, by omega, ?_⟩
    simp [put, args0, hN]
  rintro j ρ H' ⟨i, D, ⟨ok, hD⟩, hi, h0, h1, h2, h3, h4, h10, h11, h12, rfl⟩
  have hw1 : IntKind.i64.wrap ((i : Int) - 1) = (i : Int) - 1 := wrap_i64 (by have := h.2; omega)
  repeat' first | (with_reducible (show W _ _ _ _ _); with_reducible refine go2 ?_) | (with_reducible (show W _ _ _ _ _); with_reducible refine sg2 ?_ ?_ <;> intro _) | (with_reducible (show W _ _ _ _ _); with_reducible refine sc2 ?_ ?_ <;> intro _) | (with_reducible (show W _ _ (.code (.region 9 _ true) :: _) _ _); with_reducible refine W_draw [(0, []), (1, []), (2, []), (3, []), (4, []), (5, []), (6, []), (7, []), (8, []), (9, []), (10, []), (11, []), (12, []), (13, []), (14, [])] [] (by kernel_rfl) ?_)
  · rename_i hlt
    refine W_for (fun j' ρ H' => ∃ (k : Nat) (D : List Int), (MatOk n n D ∧ InD D) ∧ (n - k).toNat ≤ j' ∧ ρ 0 = i64 n ∧ ρ 1 = v ∧ ρ 2 = u64 holes ∧ ρ 3 = i64 0 ∧ ρ 4 = i64 n ∧ ρ 10 = .ptr H.length 0 ∧ ρ 11 = .ptr (H.length + 2) 0 ∧ ρ 12 = i64 i ∧ ρ 13 = i64 k ∧
      H' = H ++ [some ⟨[i64 0, i64 0, i64 0, .lit (.slice none 0 0)], true⟩, some ⟨D.map u64, true⟩, some ⟨[i64 n, i64 n, i64 n, .slice (H.length + 1) 0 N N 1], true⟩]) n.toNat ?_ ?_
    · refine ⟨if (0 : Int) > (i : Int) - 1 then 0 else i - 1, D, ⟨ok, hD⟩, by omega, ?_⟩
      simp [put, *]
      split <;> omega
    clear h0 h1 h2 h3 h4 h10 h11 h12
    rintro j' ρ' H' ⟨k, D, ⟨ok, hD⟩, hk, h0, h1, h2, h3, h4, h10, h11, h12, h13, rfl⟩
    have hl := ok.len.trans hN
    have hik : (k : Int) < n → IntKind.i64.wrap (IntKind.i64.wrap ((i : Int) * n) + (k : Int)) = ((i * n.toNat + k : Nat) : Int) := fun hk => by
      have a1 : 0 ≤ (i : Int) * n := Int.mul_nonneg (by omega) h.1
      have a2 : (i : Int) * n ≤ 4096 * 4096 := Int.mul_le_mul (by omega) h.2 h.1 (by omega)
      rw [wrap_i64 (n := (i : Int) * n) (by omega), wrap_i64 (by omega)]
      have : ((n.toNat : Nat) : Int) = n := by omega
      rw [Int.natCast_add, Int.natCast_mul, this]
    have ht : ∀ a : Nat, (a : Int).tmod (xs.length : Int) = ((a % xs.length : Nat) : Int) := fun a => tmod_nat a _
    have hz : 0 < (xs.length : Int) → ((xs.length : Int) = 0) = False := fun h => eq_false (by omega)
    have hm : ∀ a : Nat, 0 < (xs.length : Int) → (a % xs.length < xs.length) = True := fun a h => eq_true (Nat.mod_lt a (by omega))
    repeat' first | (with_reducible (show W _ _ _ _ _); with_reducible refine go2 ?_) | (with_reducible (show W _ _ _ _ _); with_reducible refine sg2 ?_ ?_ <;> intro _) | (with_reducible (show W _ _ _ _ _); with_reducible refine sc2 ?_ ?_ <;> intro _) | (with_reducible (show W _ _ (.code (.region 9 _ true) :: _) _ _); with_reducible refine W_draw [(0, []), (1, []), (2, []), (3, []), (4, []), (5, []), (6, []), (7, []), (8, []), (9, []), (10, []), (11, []), (12, []), (13, []), (14, [])] [] (by kernel_rfl) ?_) | ((with_reducible (show CallK _ _ _ _ _ _ _ _ _ _ _); with_reducible refine cm2 (set_ok ok _ _ _ hget_new hl) ?_))
    · exact ⟨j' - 1, by omega, k + 1, _, ⟨ok.set _ _ _, hD.setm _ _ _ _ _ (getD_in hI _)⟩, by omega, by rw [wrap_suc (by assumption) (by omega)], rfl⟩
    · exact ⟨j' - 1, by omega, k + 1, D, ⟨ok, hD⟩, by omega, by rw [wrap_suc (by assumption) (by omega)], rfl⟩
    · exact ⟨j' - 1, by omega, k + 1, D, ⟨ok, hD⟩, by omega, by rw [wrap_suc (by assumption) (by omega)], rfl⟩
    · exact ⟨j - 1, by omega, i + 1, D, ⟨ok, hD⟩, by omega, by rw [wrap_suc (by assumption) (by omega)], rfl⟩
  all_goals first | (exfalso; omega) | exact ⟨D, ⟨ok, hD⟩, rfl⟩ | exact ⟨D, ⟨ok, hD⟩, rfl, rfl⟩
end Go.Proofs.Ythkafhjfaekaiaa.M
