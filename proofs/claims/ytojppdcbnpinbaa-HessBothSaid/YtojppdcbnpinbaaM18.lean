/- The small machine, eighteenth part: what a function leaves behind and nobody can reach is forgotten. -/
import Derived.Test.YtojppdcbnpinbaaM17
set_option linter.unusedSimpArgs false
set_option linter.unusedVariables false
namespace Go.Proofs.Ytojppdcbnpinbaa.M
open Go

mutual
/-- All that a value leads to lies below n, or is among ps. -/
def Cl (n : Nat) (ps : List Nat) : MV → Prop
  | .lit _ => True
  | .ptr p _ => p < n ∨ p ∈ ps
  | .slice p _ _ _ _ => p < n ∨ p ∈ ps
  | .agg vs => Cls' n ps vs
  | .tup vs => Cls' n ps vs
  | .fn _ a b => Cls' n ps a ∧ Cls' n ps b
def Cls' (n : Nat) (ps : List Nat) : List MV → Prop
  | [] => True
  | v :: vs => Cl n ps v ∧ Cls' n ps vs
end

mutual
def ren (π : Nat → Nat) : MV → MV
  | .lit v => .lit v
  | .ptr p o => .ptr (π p) o
  | .slice p o n c z => .slice (π p) o n c z
  | .agg vs => .agg (rens π vs)
  | .tup vs => .tup (rens π vs)
  | .fn f a b => .fn f (rens π a) (rens π b)
def rens (π : Nat → Nat) : List MV → List MV
  | [] => []
  | v :: vs => ren π v :: rens π vs
end

theorem rens_map (π : Nat → Nat) : ∀ vs, rens π vs = vs.map (ren π)
  | [] => by simp [rens]
  | v :: vs => by simp [rens, rens_map π vs]
theorem cls_iff {n ps} : ∀ {vs}, Cls' n ps vs ↔ ∀ v ∈ vs, Cl n ps v
  | [] => by simp [Cls']
  | v :: vs => by simp [Cls', cls_iff (vs := vs)]

/-- Kept objects get the next numbers. -/
def keep (n : Nat) (ps : List Nat) (p : Nat) : Nat := if p < n then p else n + ps.idxOf p

mutual
theorem ren_conc {n : Nat} {ps : List Nat} {π : Nat → Nat} {μ μ' : Mu} (h : ∀ p l, (p < n ∨ p ∈ ps) → μ p = some l → μ' (π p) = some l) : ∀ v, Cl n ps v → Ok μ v → Ok μ' (ren π v) ∧ conc μ' (ren π v) = conc μ v
  | .lit _, _, _ => by simp [ren, Ok, conc]
  | .ptr p o, hc, hv => by
    obtain ⟨l, hl⟩ := by simpa [Ok] using hv
    have := h p l (by simpa [Cl] using hc) hl
    simp [ren, Ok, conc, loc, hl, this]
  | .slice p o n' c z, hc, hv => by
    obtain ⟨hn, l, hl, he⟩ := by simpa [Ok] using hv
    have := h p l (by simpa [Cl] using hc) hl
    simp [ren, Ok, conc, loc, hl, this, hn, he]
  | .agg vs, hc, hv => by
    have := rens_conc h vs (by simpa [Cl] using hc) (by simpa [Ok] using hv)
    simp [ren, Ok, conc, this.1, this.2]
  | .tup vs, hc, hv => by
    have := rens_conc h vs (by simpa [Cl] using hc) (by simpa [Ok] using hv)
    simp [ren, Ok, conc, this.1, this.2]
  | .fn f a b, hc, hv => by
    have hv : Oks μ a ∧ Oks μ b := by simpa [Ok] using hv
    have hc : Cls' n ps a ∧ Cls' n ps b := by simpa [Cl] using hc
    have h1 := rens_conc h a hc.1 hv.1
    have h2 := rens_conc h b hc.2 hv.2
    simp [ren, Ok, conc, h1.1, h1.2, h2.1, h2.2]
theorem rens_conc {n : Nat} {ps : List Nat} {π : Nat → Nat} {μ μ' : Mu} (h : ∀ p l, (p < n ∨ p ∈ ps) → μ p = some l → μ' (π p) = some l) : ∀ vs, Cls' n ps vs → Oks μ vs → Oks μ' (rens π vs) ∧ concs μ' (rens π vs) = concs μ vs
  | [], _, _ => by simp [rens, Oks, concs]
  | v :: vs, hc, hv => by
    have hv : Ok μ v ∧ Oks μ vs := by simpa [Oks] using hv
    have hc : Cl n ps v ∧ Cls' n ps vs := by simpa [Cls'] using hc
    have h1 := ren_conc h v hc.1 hv.1
    have h2 := rens_conc h vs hc.2 hv.2
    simp [rens, Oks, concs, h1.1, h1.2, h2.1, h2.2]
end

mutual
theorem ren_id : ∀ v, ren id v = v
  | .lit _ => by simp [ren]
  | .ptr .. => by simp [ren]
  | .slice .. => by simp [ren]
  | .agg vs => by simp [ren, rens_id vs]
  | .tup vs => by simp [ren, rens_id vs]
  | .fn f a b => by simp [ren, rens_id a, rens_id b]
theorem rens_id : ∀ vs, rens id vs = vs
  | [] => by simp [rens]
  | v :: vs => by simp [rens, ren_id v, rens_id vs]
end

def keptO (n : Nat) (ps : List Nat) (H1 : MH) (p : Nat) : Option MO := (hget H1 p).map fun o => ⟨o.cells.map (ren (keep n ps)), o.rw⟩

mutual
theorem cl_mono {n m : Nat} (h : n ≤ m) : ∀ v, Cl n [] v → Cl m [] v
  | .lit _, _ => by simp [Cl]
  | .ptr p o, hc => by simp [Cl] at hc ⊢; omega
  | .slice .., hc => by simp [Cl] at hc ⊢; omega
  | .agg vs, hc => by simp only [Cl] at hc ⊢; exact cls_mono h vs hc
  | .tup vs, hc => by simp only [Cl] at hc ⊢; exact cls_mono h vs hc
  | .fn f a b, hc => by simp only [Cl] at hc ⊢; exact ⟨cls_mono h a hc.1, cls_mono h b hc.2⟩
theorem cls_mono {n m : Nat} (h : n ≤ m) : ∀ vs, Cls' n [] vs → Cls' m [] vs
  | [], _ => by simp [Cls']
  | v :: vs, hc => by simp only [Cls'] at hc ⊢; exact ⟨cl_mono h v hc.1, cls_mono h vs hc.2⟩
end
mutual
theorem ren_free {π : Nat → Nat} : ∀ v, Cl 0 [] v → ren π v = v
  | .lit _, _ => by simp [ren]
  | .ptr p o, hc => by simp [Cl] at hc
  | .slice .., hc => by simp [Cl] at hc
  | .agg vs, hc => by simp only [Cl] at hc; simp [ren, rens_free vs hc]
  | .tup vs, hc => by simp only [Cl] at hc; simp [ren, rens_free vs hc]
  | .fn f a b, hc => by simp only [Cl] at hc; simp [ren, rens_free a hc.1, rens_free b hc.2]
theorem rens_free {π : Nat → Nat} : ∀ vs, Cls' 0 [] vs → rens π vs = vs
  | [], _ => by simp [rens]
  | v :: vs, hc => by simp only [Cls'] at hc; simp [rens, ren_free v hc.1, rens_free vs hc.2]
end

mutual
theorem ok_free {μ : Mu} : ∀ v, Cl 0 [] v → Ok μ v
  | .lit _, _ => by simp [Ok]
  | .ptr p o, hc => by simp [Cl] at hc
  | .slice .., hc => by simp [Cl] at hc
  | .agg vs, hc => by simp only [Cl] at hc; simp [Ok, oks_free vs hc]
  | .tup vs, hc => by simp only [Cl] at hc; simp [Ok, oks_free vs hc]
  | .fn f a b, hc => by simp only [Cl] at hc; simp [Ok, oks_free a hc.1, oks_free b hc.2]
theorem oks_free {μ : Mu} : ∀ vs, Cls' 0 [] vs → Oks μ vs
  | [], _ => by simp [Oks]
  | v :: vs, hc => by simp only [Cls'] at hc; simp [Oks, ok_free v hc.1, oks_free vs hc.2]
end
theorem cl_lit {n ps v} : Cl n ps (.lit v) = True := by simp [Cl]
theorem cl_agg {n ps vs} : Cl n ps (.agg vs) = Cls' n ps vs := by simp [Cl]
theorem cl_tup {n ps vs} : Cl n ps (.tup vs) = Cls' n ps vs := by simp [Cl]
theorem cl_ptr {n ps p o} : Cl n ps (.ptr p o) = (p < n ∨ p ∈ ps) := by simp [Cl]
theorem cl_slice {n ps p o a b c} : Cl n ps (.slice p o a b c) = (p < n ∨ p ∈ ps) := by simp [Cl]
theorem cls_nil {n ps} : Cls' n ps [] = True := by simp [Cls']
theorem cls_cons {n ps v vs} : Cls' n ps (v :: vs) = (Cl n ps v ∧ Cls' n ps vs) := by simp [Cls']
theorem ren_lit {π v} : ren π (.lit v) = .lit v := by simp [ren]
theorem ren_agg {π vs} : ren π (.agg vs) = .agg (rens π vs) := by simp [ren]
theorem ren_tup {π vs} : ren π (.tup vs) = .tup (rens π vs) := by simp [ren]
theorem ren_slice {π p o n c z} : ren π (.slice p o n c z) = .slice (π p) o n c z := by simp [ren]
theorem ren_ptr {π p o} : ren π (.ptr p o) = .ptr (π p) o := by simp [ren]
theorem rens_nil' {π} : rens π [] = [] := by simp [rens]
theorem rens_cons' {π v vs} : rens π (v :: vs) = ren π v :: rens π vs := by simp [rens]

theorem Spec.gc {P : Program} {f : FuncId} {args : List MV} {H : MH} {K K1 : MV → MH → Prop} (h : Spec P f args H K1)
    (hk : ∀ v H1, K1 v H1 → ∃ (Hm junk : MH) (ps : List Nat), H1 = Hm ++ junk ∧ Hm.length = H.length ∧ ps.Nodup ∧ (∀ p ∈ ps, H.length ≤ p) ∧
      (∀ p o, hget Hm p = some o → hget H p = some o ∨ ∀ c ∈ o.cells, Cl 0 [] c) ∧ (∀ p ∈ ps, ∀ o, hget H1 p = some o → ∀ c ∈ o.cells, Cl H.length ps c) ∧ Cl H.length ps v ∧
      K (ren (keep H.length ps) v) (Hm ++ ps.map (keptO H.length ps H1))) : Spec P f args H K := by
  intro μ w hr ha
  refine (h μ w hr ha).mono fun x w' ⟨v, H1, μ1, hk1, hx, hok, hr1, he1⟩ => ?_
  obtain ⟨Hm, junk, ps, rfl, hlen, hnd, hps, hold, hnew, hcl, hK⟩ := hk v H1 hk1
  let n := H.length
  let μ' : Mu := fun q => if q < n then μ q else match ps[q - n]? with
    | some p => μ1 p
    | none => none
  have hμ1 : ∀ p l, p < n → μ1 p = some l → μ p = some l := fun p l hp hl => by
    rcases he1.new p l hl with h1 | h1
    · exact h1
    · exact absurd hp (Nat.not_lt.2 h1)
  have hren : ∀ p l, (p < n ∨ p ∈ ps) → μ1 p = some l → μ' (keep n ps p) = some l := by
    intro p l hp hl
    by_cases hlt : p < n
    · simp only [keep, if_pos hlt, μ']
      exact hμ1 p l hlt hl
    · have hm := hp.resolve_left hlt
      have hi : ps.idxOf p < ps.length := List.idxOf_lt_length_of_mem hm
      simp only [keep, if_neg hlt, μ']
      rw [if_neg (by omega)]
      have : n + ps.idxOf p - n = ps.idxOf p := by omega
      rw [this, List.getElem?_eq_getElem hi, List.getElem_idxOf hi]
      exact hl
  have hv := ren_conc hren v hcl hok
  refine ⟨ren (keep n ps) v, Hm ++ ps.map (keptO n ps (Hm ++ junk)), μ', hK, by rw [hv.2]; exact hx, hv.1, ?_, ?_⟩
  case refine_1 =>
    have hget' : ∀ q o, hget (Hm ++ ps.map (keptO n ps (Hm ++ junk))) q = some o → (q < n ∧ hget Hm q = some o) ∨ ∃ j p o1, q = n + j ∧ ps[j]? = some p ∧ hget (Hm ++ junk) p = some o1 ∧ o = ⟨o1.cells.map (ren (keep n ps)), o1.rw⟩ := by
      intro q o hq
      unfold hget at hq
      by_cases hlt : q < n
      · left
        rw [List.getElem?_append_left (by omega)] at hq
        exact ⟨hlt, hq⟩
      · right
        rw [List.getElem?_append_right (by omega), List.getElem?_map] at hq
        cases hj : ps[q - Hm.length]? with
        | none => rw [hj] at hq; simp at hq
        | some p =>
          rw [hj] at hq
          simp only [Option.map_some, Option.join_some, keptO, Option.map_eq_some_iff] at hq
          obtain ⟨o1, h1, h2⟩ := hq
          exact ⟨q - Hm.length, p, o1, by omega, hj, h1, h2.symm⟩
    have hloc : ∀ q l, μ' q = some l → (q < n ∧ μ q = some l ∧ μ1 q = some l) ∨ ∃ j p, q = n + j ∧ ps[j]? = some p ∧ μ1 p = some l := by
      intro q l hq
      simp only [μ'] at hq
      split at hq
      · rename_i hlt; exact .inl ⟨hlt, hq, he1.mono q l hq⟩
      · rename_i hge
        split at hq
        · rename_i p hp; exact .inr ⟨q - n, p, by omega, hp, hq⟩
        · cases hq
    have hHm : ∀ q o, q < n → hget Hm q = some o → hget (Hm ++ junk) q = some o := fun q o hq ho => by
      unfold hget at ho ⊢
      rw [List.getElem?_append_left (by omega)]
      exact ho
    have hobj : ∀ q l o, μ' q = some l → hget (Hm ++ ps.map (keptO n ps (Hm ++ junk))) q = some o → ∃ p o1, μ1 p = some l ∧ hget (Hm ++ junk) p = some o1 ∧ o1.rw = o.rw ∧ ((q < n ∧ p = q) ∨ ∃ j, q = n + j ∧ ps[j]? = some p) ∧ ObjAt μ' w' l o := by
      intro q l o hq ho
      rcases hget' q o ho with ⟨hlt, ho'⟩ | ⟨j, p, o1, hqj, hp, ho1, rfl⟩
      · rcases hloc q l hq with ⟨_, hμq, hμ1q⟩ | ⟨j, p, hqj, _, _⟩
        · refine ⟨q, o, hμ1q, hHm q o hlt ho', rfl, .inl ⟨hlt, rfl⟩, ?_⟩
          obtain ⟨cs, t, fz, h1, h2, h3, h5, h6⟩ := hr1.obj q l o hμ1q (hHm q o hlt ho')
          refine ⟨cs, t, fz, h1, h2, h3, h5, fun i c hc => ?_⟩
          obtain ⟨hc1, hc2⟩ := h6 i c hc
          have hcm : c ∈ o.cells := List.mem_of_getElem? hc
          rcases hold q o ho' with hH | hfree
          · obtain ⟨_, _, _, _, _, _, _, h7⟩ := hr.obj q l o hμq hH
            have hokμ := (h7 i c hc).1
            have hle : Mle μ μ' := fun p l' hp => by
              have := hr.bound p l' hp
              simp only [μ']
              rw [if_pos this]
              exact hp
            have e1 := ok_mono hle c hokμ
            have e2 := ok_mono he1.mono c hokμ
            exact ⟨e1.1, by rw [e1.2, ← e2.2]; exact hc2⟩
          · have hany : ∀ p l', (p < 0 ∨ p ∈ ([] : List Nat)) → μ1 p = some l' → μ' (id p) = some l' := fun p l' hp => by simp at hp
            have e1 := ren_conc (π := id) hany c (hfree c hcm) hc1
            rw [ren_id] at e1
            exact ⟨e1.1, by rw [e1.2]; exact hc2⟩
        · omega
      · rcases hloc q l hq with ⟨hlt, _, _⟩ | ⟨j', p', hqj', hp', hμp⟩
        · omega
        · have : j' = j := by omega
          subst this
          rw [hp] at hp'; cases hp'
          have hpm : p ∈ ps := List.mem_of_getElem? hp
          refine ⟨p, o1, hμp, ho1, rfl, .inr ⟨j', hqj', hp⟩, ?_⟩
          obtain ⟨cs, t, fz, h1, h2, h3, h5, h6⟩ := hr1.obj p l o1 hμp ho1
          refine ⟨cs, t, fz, h1, h2, by simpa using h3, h5, fun i c hc => ?_⟩
          simp only [List.getElem?_map, Option.map_eq_some_iff] at hc
          obtain ⟨c0, hc0, rfl⟩ := hc
          obtain ⟨hc1, hc2⟩ := h6 i c0 hc0
          have e1 := ren_conc hren c0 (hnew p hpm o1 ho1 c0 (List.mem_of_getElem? hc0)) hc1
          exact ⟨e1.1, by rw [e1.2]; exact hc2⟩
    refine ⟨fun q l hq => ?_, fun q l o hq ho => ?_, fun q r l1 l2 o1 o2 hq hr2 h1 h2 hrw hne => ?_⟩
    · simp only [List.length_append, List.length_map]
      rcases hloc q l hq with ⟨hlt, _, _⟩ | ⟨j, p, hqj, hp, _⟩
      · omega
      · have := (List.getElem?_eq_some_iff.1 hp).1
        omega
    · obtain ⟨_, _, _, _, _, _, h⟩ := hobj q l o hq ho
      exact h
    · obtain ⟨p1, u1, a1, a2, a3, a4, _⟩ := hobj q l1 o1 hq h1
      obtain ⟨p2, u2, b1, b2, b3, b4, _⟩ := hobj r l2 o2 hr2 h2
      refine hr1.inj p1 p2 l1 l2 u1 u2 a1 b1 a2 b2 (by rw [a3]; exact hrw) ?_
      rintro rfl
      rcases a4 with ⟨h3, rfl⟩ | ⟨j, h3, h4⟩
      · rcases b4 with ⟨h5, h6⟩ | ⟨j', h5, h6⟩
        · exact hne h6
        · have := hps _ (List.mem_of_getElem? h6)
          omega
      · rcases b4 with ⟨h5, h6⟩ | ⟨j', h5, h6⟩
        · have := hps _ (List.mem_of_getElem? h4)
          omega
        · have hj := (List.getElem?_eq_some_iff.1 h4)
          have hj' := (List.getElem?_eq_some_iff.1 h6)
          obtain ⟨l1', e1⟩ := hj
          obtain ⟨l2', e2⟩ := hj'
          have h7 := List.Nodup.idxOf_getElem hnd j l1'
          have h8 := List.Nodup.idxOf_getElem hnd j' l2'
          rw [e1] at h7
          rw [e2] at h8
          omega
  case refine_2 =>
    refine ⟨fun p l hp => ?_, fun p l hp => ?_, by simp; omega, he1.size, fun b hb hlt => ?_, he1.frame, he1.same⟩
    · have := hr.bound p l hp
      simp only [μ']
      rw [if_pos this]; exact hp
    · simp only [μ'] at hp
      split at hp
      · exact .inl hp
      · exact .inr (by omega)
    · obtain ⟨q, l, o, hq, ho, hrw, hbb⟩ := hb
      refine he1.owned b ?_ hlt
      unfold hget at ho
      simp only [μ'] at hq
      split at hq
      · rename_i hql
        rw [List.getElem?_append_left (by omega)] at ho
        refine ⟨q, l, o, he1.mono q l hq, ?_, hrw, hbb⟩
        unfold hget
        rw [List.getElem?_append_left (by omega)]
        exact ho
      · rename_i hql
        split at hq
        · rename_i p hp
          rw [List.getElem?_append_right (by omega), List.getElem?_map] at ho
          have : ps[q - Hm.length]? = some p := by rw [hlen]; exact hp
          rw [this] at ho
          simp only [Option.map_some, Option.join_some, keptO, Option.map_eq_some_iff] at ho
          obtain ⟨o1, h1, rfl⟩ := ho
          exact ⟨p, l, o1, hq, h1, hrw, hbb⟩
        · cases hq

/-- A function that leaves nothing behind: whatever it laid is forgotten. -/
theorem Spec.scalar {P : Program} {f : FuncId} {args : List MV} {H : MH} {r : MV} (h : Spec P f args H fun v H' => (∃ junk, H' = H ++ junk) ∧ Cl 0 [] v ∧ v = r) : Spec P f args H fun v H' => v = r ∧ H' = H := by
  refine Spec.gc h ?_
  rintro v H1 ⟨⟨junk, rfl⟩, hcl, rfl⟩
  refine ⟨H, junk, [], rfl, rfl, List.nodup_nil, by simp, fun p o ho => .inl ho, by simp, cl_mono (Nat.zero_le _) v hcl, ?_, by simp⟩
  exact ren_free v hcl

end Go.Proofs.Ytojppdcbnpinbaa.M
