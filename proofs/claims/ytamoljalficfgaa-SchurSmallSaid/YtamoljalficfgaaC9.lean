/- Loops with a count that goes down; new matrices. -/
import Derived.Test.YtamoljalficfgaaMT2
set_option linter.unusedSimpArgs false
set_option linter.unusedVariables false
set_option maxRecDepth 10000
set_option maxHeartbeats 2000000
namespace Go.Proofs.Ytamoljalficfgaa.M
open Go Go.Proofs

/-- A loop: what holds at each round's head, with a number that goes down. -/
theorem W_for {P : Program} {Q : MQ} {k : List It} {ρ : Env} {H : MH} {c : Code} (I : Nat → Env → MH → Prop) (n : Nat) (h0 : I n ρ H)
    (round : ∀ j ρ H, I j ρ H → W P Q (.code c :: .back (fun ρ' H' => ∃ j', j' < j ∧ I j' ρ' H') :: k) ρ H) : W P Q (.code (.loop c) :: k) ρ H := by
  show ∃ n, loopN (mwp P c) (WQ P Q k) n ρ H
  have key : ∀ (n j : Nat) (ρ : Env) (H : MH), j < n → I j ρ H → loopN (mwp P c) (WQ P Q k) n ρ H := by
    intro n
    induction n with
    | zero => intro j ρ H hj; omega
    | succ n ih =>
      intro j ρ H hj hI
      refine mwp_mono c _ _ ρ H ?_ (round j ρ H hI)
      intro e ρ' H' he
      cases e with
      | normal => obtain ⟨j', h1, h2⟩ := he; exact ih j' ρ' H' (by omega) h2
      | exit id => exact he
      | ret => exact he
  exact ⟨n + 1, key _ n ρ H (by omega) h0⟩

/-- So many rounds, one behind the other. -/
def iter {α : Type} (f : Nat → α → α) : Nat → α → α
  | 0, a => a
  | k + 1, a => f k (iter f k a)

theorem lt_of_hget {H : MH} {p : Nat} {o : MO} (h : hget H p = some o) : p < H.length := hget_lt h

mutual
theorem cl_more {n : Nat} {ps : List Nat} : ∀ {v : MV}, Cl n [] v → Cl n ps v
  | .lit _, _ => by simp [Cl]
  | .ptr p o, hc => by simp [Cl] at hc ⊢; exact .inl hc
  | .slice .., hc => by simp [Cl] at hc ⊢; exact .inl hc
  | .agg vs, hc => by simp only [Cl] at hc ⊢; exact cls_more hc
  | .tup vs, hc => by simp only [Cl] at hc ⊢; exact cls_more hc
  | .fn f a b, hc => by simp only [Cl] at hc ⊢; exact ⟨cls_more hc.1, cls_more hc.2⟩
theorem cls_more {n : Nat} {ps : List Nat} : ∀ {vs : List MV}, Cls' n [] vs → Cls' n ps vs
  | [], _ => by simp [Cls']
  | v :: vs, hc => by simp only [Cls'] at hc ⊢; exact ⟨cl_more hc.1, cls_more hc.2⟩
end

/-- Only what is new is kept, as the next object. -/
theorem Spec.one {P : Program} {f : FuncId} {args : List MV} {H : MH} {v : Nat → MV} {cs : List MV} {q : Nat} {J : MH} (hcs : ∀ c ∈ cs, Cl 0 [] c) (hv : ∀ p, Cl H.length [p] (v p)) (hr : ∀ π p, H.length ≤ p → ren π (v p) = v (π p))
    (hq : J[q]? = some (some ⟨cs, true⟩)) (h : Spec P f args H fun u H' => u = v (H.length + q) ∧ H' = H ++ J) : Spec P f args H fun u H' => u = v H.length ∧ H' = H ++ [some ⟨cs, true⟩] := by
  refine Spec.gc h ?_
  rintro u H1 ⟨rfl, rfl⟩
  have hg : hget (H ++ J) (H.length + q) = some ⟨cs, true⟩ := by
    unfold hget
    rw [List.getElem?_append_right (by omega)]
    have : H.length + q - H.length = q := by omega
    rw [this, hq]; rfl
  have hk : keep H.length [H.length + q] (H.length + q) = H.length := by
    unfold keep
    rw [if_neg (by omega)]
    simp
  refine ⟨H, J, [H.length + q], rfl, rfl, by simp, by simp, fun p o ho => .inl ho, ?_, hv _, ?_, ?_⟩
  · intro p hp o ho c hc
    simp only [List.mem_singleton] at hp
    subst hp
    rw [hg] at ho
    cases ho
    have := cl_mono (Nat.zero_le H.length) c (hcs c hc)
    exact cl_more this
  · rw [hr _ _ (by omega), hk]
  · simp only [List.map_cons, List.map_nil, keptO, hg, Option.map_some]
    congr 3
    congr 1
    exact (List.map_congr_left fun c hc => ren_free c (hcs c hc)).trans (List.map_id' _)

/-- A matrix of zeros. -/
theorem new_spec (r c : Int) (hr : 0 ≤ r ∧ r ≤ 4096) (hc : 0 ≤ c ∧ c ≤ 4096) (H : MH) : Spec Try.prog 16 [i64 r, i64 c] H fun v H' => v = mx r c c H.length (r * c).toNat (r * c).toNat ∧ H' = H ++ [some ⟨List.replicate (r * c).toNat (u64 0), true⟩] := by
  have hm : 0 ≤ r * c ∧ r * c ≤ 4096 * 4096 := ⟨Int.mul_nonneg hr.1 hc.1, Int.mul_le_mul hr.2 hc.2 hc.1 (by omega)⟩
  have hw : IntKind.i64.wrap (r * c) = r * c := wrap_i64 (by omega)
  have h1 : ¬ r < 0 := by omega
  have h2 : ¬ c < 0 := by omega
  have h3 : ¬ r > 4096 := by omega
  have h4 : ¬ c > 4096 := by omega
  have ms : msV (.slice 1 8 (some [.int .u64 0]) true) (i64 (r * c)) (i64 (r * c)) = some (List.replicate (r * c).toNat (u64 0), (r * c).toNat, 1) := by
    simp only [msV]
    rw [if_pos ⟨trivial, hm.1, by omega, by omega, rfl⟩, Nat.mul_one, replicate_zero]
  refine Spec.one (q := 1) (J := [some ⟨[i64 r, i64 c, i64 c, .slice (H.length + 1) 0 (r * c).toNat (r * c).toNat 1], true⟩, some ⟨List.replicate (r * c).toNat (u64 0), true⟩]) (v := fun p => mx r c c p (r * c).toNat (r * c).toNat)
    (fun x hx => ?_) (fun p => ?_) (fun π p _ => ?_) rfl ?_
  · rw [List.eq_of_mem_replicate hx]; simp [Cl]
  · simp [Cl, Cls']
  · simp [ren, rens]
  refine enterS Try.func16 [.cell 4 26] ?_
  repeat' first | (with_reducible (show W _ _ _ _ _); with_reducible refine go2 ?_) | (with_reducible (show W _ _ _ _ _); with_reducible refine sg2 ?_ ?_ <;> intro _) | (with_reducible (show W _ _ _ _ _); with_reducible refine sc2 ?_ ?_ <;> intro _)
  all_goals simp [*]
end Go.Proofs.Ytamoljalficfgaa.M
