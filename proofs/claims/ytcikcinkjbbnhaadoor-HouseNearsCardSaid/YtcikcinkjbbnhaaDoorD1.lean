/- Numbers that are patterns; slices that are read. -/
import Derived.Test.YtcikcinkjbbnhaaDoorC11
import Derived.Test.YtcikcinkjbbnhaaDoorJ
set_option linter.unusedSimpArgs false
set_option linter.unusedVariables false
set_option maxRecDepth 10000
set_option maxHeartbeats 4000000
namespace Go.Proofs.YtcikcinkjbbnhaaDoor.M
open Go Go.Proofs

/-- All are patterns. -/
def InD (D : List Int) : Prop := ∀ x ∈ D, InU x
theorem abs_in (b : Int) : InU (absM b) := bits_inU _ _ _
theorem zero_in : InU 0 := by constructor <;> omega
theorem getD_in {D : List Int} (h : InD D) (i : Nat) : InU (D.getD i 0) := by
  rw [List.getD_eq_getElem?_getD]
  cases hi : D[i]? with
  | none => exact zero_in
  | some x => exact h x (List.mem_of_getElem? hi)
theorem atM_in {D : List Int} (h : InD D) (r c s i k : Int) : InU (atM r c s D i k) := by
  unfold atM
  split
  · exact getD_in h _
  · exact quiet_in
theorem InD.set {D : List Int} (h : InD D) (i : Nat) {b : Int} (hb : InU b) : InD (D.set i b) := by
  intro x hx
  rcases List.mem_or_eq_of_mem_set hx with h1 | h1
  · exact h x h1
  · rw [h1]; exact hb
theorem InD.setm {D : List Int} (h : InD D) (r c s i k : Int) {b : Int} (hb : InU b) : InD (setM r c s D i k b) := by
  unfold M.setM
  split
  · exact h.set _ hb
  · exact h
theorem InD.rep (n : Nat) : InD (List.replicate n 0) := fun x hx => by rw [List.eq_of_mem_replicate hx]; exact zero_in

/-- Where a slice's number lies. -/
def ixq (v : MV) (j : Nat) : MV := match v with
  | .slice p o _ _ _ => .ptr p (o + j * 1)
  | _ => default
theorem Sl.ia {H : MH} {v : MV} {xs : List Int} (h : Sl H v xs) {j : Nat} (hj : j < xs.length) (e : Nat) (z : Option (List Value)) (b : Bool) (k : IntKind) : iaV (.slice 1 e z b) v (.lit (.int k j)) = some (ixq v j) := by
  rcases h with ⟨rfl, a, rfl⟩ | ⟨p, o, c, ob, rfl, hp, hcell⟩
  · simp at hj
  · rw [iaV_slice, if_pos ⟨by omega, by omega⟩]
    simp [ixq]
theorem Sl.ld {P : Program} {t : TypeId} (hk : (ty P t).known = true) (ha : (ty P t).agg = false) {H : MH} {v : MV} {xs : List Int} (h : Sl H v xs) {j : Nat} (hj : j < xs.length) : loadV P t (ixq v j) H = some (u64 (xs.getD j 0)) := by
  rcases h with ⟨rfl, a, rfl⟩ | ⟨p, o, c, ob, rfl, hp, hcell⟩
  · simp at hj
  · simp only [ixq, loadV, hk, ha, if_true, Bool.false_eq_true, if_false, hp, Option.bind_some, Nat.mul_one]
    exact hcell j hj

/-- Only what is new is kept: of what kind it is alone is told. -/
theorem Spec.oneE {P : Program} {f : FuncId} {args : List MV} {H : MH} {T : Type} {G : T → Prop} {v : Nat → MV} {cs : T → List MV} {q : Nat} {J : T → MH} (hcs : ∀ t, ∀ c ∈ cs t, Cl 0 [] c) (hv : ∀ p, Cl H.length [p] (v p)) (hr : ∀ π p, H.length ≤ p → ren π (v p) = v (π p))
    (hq : ∀ t, (J t)[q]? = some (some ⟨cs t, true⟩)) (h : Spec P f args H fun u H' => ∃ t, G t ∧ u = v (H.length + q) ∧ H' = H ++ J t) : Spec P f args H fun u H' => ∃ t, G t ∧ u = v H.length ∧ H' = H ++ [some ⟨cs t, true⟩] := by
  refine Spec.gc h ?_
  rintro u H1 ⟨t, hG, rfl, rfl⟩
  have hg : hget (H ++ J t) (H.length + q) = some ⟨cs t, true⟩ := by
    unfold hget
    rw [List.getElem?_append_right (by omega)]
    have : H.length + q - H.length = q := by omega
    rw [this, hq]; rfl
  have hk : keep H.length [H.length + q] (H.length + q) = H.length := by
    unfold keep
    rw [if_neg (by omega)]
    simp
  refine ⟨H, J t, [H.length + q], rfl, rfl, by simp, by simp, fun p o ho => .inl ho, ?_, hv _, t, hG, ?_, ?_⟩
  · intro p hp o ho c hc
    simp only [List.mem_singleton] at hp
    subst hp
    rw [hg] at ho
    cases ho
    exact cl_more (cl_mono (Nat.zero_le H.length) c (hcs t c hc))
  · rw [hr _ _ (by omega), hk]
  · simp only [List.map_cons, List.map_nil, keptO, hg, Option.map_some]
    congr 3
    congr 1
    exact (List.map_congr_left fun c hc => ren_free c (hcs t c hc)).trans (List.map_id' _)

theorem tmod_nat (a b : Nat) : (a : Int).tmod (b : Int) = ((a % b : Nat) : Int) := (Int.ofNat_tmod a b).symm
theorem and7 (n : Int) : 0 ≤ bits .and .i64 n 7 ∧ bits .and .i64 n 7 ≤ 7 := by
  unfold bits
  dsimp only
  rw [BitVec.toNat_and]
  have h : (BitVec.ofInt IntKind.i64.bits n).toNat &&& (BitVec.ofInt IntKind.i64.bits 7).toNat ≤ 7 := Nat.and_le_right
  rw [wrap_i64 (by omega)]
  omega
theorem cx2 {g : FuncId} {Q : MQ} {k : List It} {ρ : Env} {H : MH} {args : List MV} {d l F} {K : MV → MH → Prop} (hs : Spec Tryd.prog g args H K) (h : ∀ v H', K v H' → W Tryd.prog Q (.run l F :: k) (put ρ d v) H') : CallK Tryd.prog Q (.fn (.func g) [] []) args d [] l F k ρ H :=
  CallK_of (a := []) (b := []) (by simpa using hs) (fun v H' hk => ⟨held_none _ _ _, h v H' hk⟩)

theorem len22 {H : MH} {v : MV} {xs : List Int} (hv : Sl H v xs) : lenV Tryd.prog 22 v = some (i64 (xs.length : Int)) := by
  rcases hv with ⟨rfl, a, rfl⟩ | ⟨p, o, c, ob, rfl, _, _⟩ <;> simp [lenV, ty_22]
end Go.Proofs.YtcikcinkjbbnhaaDoor.M
