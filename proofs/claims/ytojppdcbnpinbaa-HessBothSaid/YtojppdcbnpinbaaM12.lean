/- The small machine, twelfth part: what an operation answers hangs on its operands alone. -/
import Derived.Test.YtojppdcbnpinbaaM11
set_option linter.unusedSimpArgs false
set_option linter.unusedVariables false
namespace Go.Proofs.Ytojppdcbnpinbaa.M
open Go

theorem evs_congr {ρ ρ' : Env} {xs : Array Operand} (h : ∀ x ∈ xs, ev ρ x = ev ρ' x) : evs ρ xs = evs ρ' xs := by
  unfold evs
  exact List.map_congr_left fun x hx => h x (Array.mem_toList_iff.1 hx)

theorem parts_congr {ρ ρ' : Env} {ps : Array (Nat × Operand)} (h : ∀ x ∈ (ps.toList.map (·.2)).toArray, ev ρ x = ev ρ' x) :
    (ps.toList.map fun x => (x.1, ev ρ x.2)) = ps.toList.map fun x => (x.1, ev ρ' x.2) := by
  refine List.map_congr_left fun x hx => ?_
  rw [h x.2 (by simp only [List.mem_toArray, List.mem_map]; exact ⟨x, hx, rfl⟩)]

theorem opt_congr {ρ ρ' : Env} {l : Option Operand} (h : ∀ x ∈ l.toArray, ev ρ x = ev ρ' x) : l.map (ev ρ) = l.map (ev ρ') := by
  cases l with
  | none => rfl
  | some x => simp only [Option.map_some, Option.some.injEq]; exact h x (by simp)

theorem pureV_congr {P : Program} {op : Op} {ρ ρ' : Env} (h : ∀ x ∈ op.operands, ev ρ x = ev ρ' x) : pureV P op ρ = pureV P op ρ' := by
  unfold pureV
  split
  · rw [h _ (by simp [Op.operands])]
  · rw [h _ (by simp [Op.operands])]
  · rename_i c a b
    rw [h c (by simp [Op.operands]), h a (by simp [Op.operands]), h b (by simp [Op.operands])]
  · rename_i t ps
    rw [parts_congr (by simpa [Op.operands] using h)]
  · rw [h _ (by simp [Op.operands])]
  · rename_i o t x y u
    rw [h x (by simp [Op.operands]), h y (by simp [Op.operands])]
  · rw [h _ (by simp [Op.operands])]
  · rw [h _ (by simp [Op.operands])]
  · rw [h _ (by simp [Op.operands])]
  · rw [h _ (by simp [Op.operands])]
  · rw [h _ (by simp [Op.operands])]
  · rename_i t x i
    rw [h x (by simp [Op.operands]), h i (by simp [Op.operands])]
  · rename_i t x i
    rw [h x (by simp [Op.operands]), h i (by simp [Op.operands])]
  · rename_i t x l hi
    have h0 := h x (by simp [Op.operands])
    have h1 : l.map (ev ρ) = l.map (ev ρ') := opt_congr fun y hy => h y (by simp only [Op.operands, Array.mem_append]; simp_all)
    have h2 : hi.map (ev ρ) = hi.map (ev ρ') := opt_congr fun y hy => h y (by simp only [Op.operands, Array.mem_append]; simp_all)
    rw [h0, h1, h2]
  · rename_i f a b
    rw [evs_congr (xs := a) fun y hy => h y (by simp [Op.operands, hy]), evs_congr (xs := b) fun y hy => h y (by simp [Op.operands, hy])]
  · rename_i b args ats
    have he := evs_congr (xs := args) fun y hy => h y (by simpa [Op.operands, Call.operands] using hy)
    split
    · split
      · rename_i t x ht hx
        rw [h x (by simp only [Op.operands, Call.operands, Array.mem_append]; exact .inr (Array.mem_of_getElem? hx))]
      · rfl
    · rw [he]
    · rw [he]
    · rfl
  · rfl

theorem loadO_congr {P : Program} {op : Op} {ρ ρ' : Env} (h : ∀ x ∈ op.operands, ev ρ x = ev ρ' x) (H : MH) : loadO P op ρ H = loadO P op ρ' H := by
  unfold loadO
  split
  · rw [h _ (by simp [Op.operands])]
  · rfl

theorem allocV_congr {P : Program} {op : Op} {ρ ρ' : Env} (h : ∀ x ∈ op.operands, ev ρ x = ev ρ' x) : allocV P op ρ = allocV P op ρ' := by
  unfold allocV
  split
  · rfl
  · rw [h _ (by simp [Op.operands])]
  · rename_i t n ps
    rw [parts_congr (by simpa [Op.operands] using h)]
  · rename_i t l c
    rw [h l (by simp [Op.operands]), h c (by simp [Op.operands])]
  · rfl

theorem effM_congr {P : Program} {op : Op} {ρ ρ' : Env} (h : ∀ x ∈ op.operands, ev ρ x = ev ρ' x) {H : MH} {K : MV → MH → Prop} (hh : effM P op ρ H K) : effM P op ρ' H K := by
  unfold effM at *
  split at hh
  · rename_i t x y
    rw [← h x (by simp [Op.operands]), ← h y (by simp [Op.operands])]
    exact hh
  · rename_i f args ats
    have he := evs_congr (xs := args) fun y hy => h y (by simp [Op.operands, Call.operands, hy])
    rw [← h f (by simp [Op.operands, Call.operands]), ← he]
    exact hh
  · rename_i s x ats
    rw [← h s (by simp [Op.operands, Call.operands]), ← h x (by simp [Op.operands, Call.operands])]
    exact hh
  · exact hh.elim

theorem effM_mono {P : Program} {op : Op} {ρ : Env} {H : MH} {K K' : MV → MH → Prop} (hk : ∀ v H', K v H' → K' v H') (hh : effM P op ρ H K) : effM P op ρ H K' := by
  unfold effM at *
  split at hh
  · split at hh
    · exact hk _ _ hh
    · exact hh.elim
  · split at hh
    · exact hh.mono hk
    · exact hh.elim
  · split at hh
    · exact hk _ _ hh
    · exact fun c hc => hk _ _ (hh c hc)
    · exact hh.elim
  · exact hh.elim

theorem loadO_grow {P : Program} {op : Op} {ρ : Env} {H : MH} {v : MV} (h : loadO P op ρ H = some v) (x : Option MO) : loadO P op ρ (H ++ [x]) = some v := by
  unfold loadO at h ⊢
  split at h
  · rename_i t y
    unfold loadV at h ⊢
    split at h
    · rename_i p o he
      have hg : ∀ ob, hget H p = some ob → hget (H ++ [x]) p = some ob := fun ob hob => by rw [hget_append (hget_lt hob)]; exact hob
      split at h
      · rename_i hk
        rw [if_pos hk]
        split at h
        · rename_i ha
          rw [if_pos ha]
          split at h
          · rename_i n hn
            simp only [Option.map_eq_some_iff] at h ⊢
            obtain ⟨cs, hcs, rfl⟩ := h
            refine ⟨cs, ?_, rfl⟩
            unfold cellsAt at hcs ⊢
            simp only [Option.bind_eq_some_iff] at hcs ⊢
            obtain ⟨ob, hob, hc⟩ := hcs
            exact ⟨ob, hg ob hob, hc⟩
          · cases h
        · rename_i ha
          rw [if_neg ha]
          simp only [Option.bind_eq_some_iff] at h ⊢
          obtain ⟨ob, hob, hc⟩ := h
          exact ⟨ob, hg ob hob, hc⟩
      · cases h
    · cases h
  · cases h

/-- The operands are among what an operation looks at. -/
theorem look_ops {ops : Array Oper} {o : Oper} {ρ ρ' : Env} (h : ∀ t ∈ o.looksAt ops, ρ t = ρ' t) : ∀ x ∈ o.op.operands, ev ρ x = ev ρ' x := by
  intro x hx
  cases x with
  | tmp t =>
    exact h t (List.mem_append_left _ (List.mem_filterMap.2 ⟨.tmp t, by simpa using hx, rfl⟩))
  | _ => rfl

theorem look_want {ops : Array Oper} {o : Oper} {ρ ρ' : Env} (h : ∀ t ∈ o.looksAt ops, ρ t = ρ' t) : wantedM ops.toList o ρ = wantedM ops.toList o ρ' := by
  unfold wantedM
  cases hg : o.guard with
  | none => rfl
  | some jw =>
    obtain ⟨j, want⟩ := jw
    have hj : ops.toList[j]? = ops[j]? := by simp
    simp only [hj]
    cases hd : (ops[j]?).bind (·.dst) with
    | none => rfl
    | some d =>
      simp only
      rw [h d (List.mem_append_right _ (by rw [hg]; simp [hd]))]

/-! ### The walk in the order told -/

def vM (P : Program) (ops : Array Oper) : List (Nat × List Nat) → List (Nat × (MH → Prop)) → Env → MH → (Env → MH → Prop) → Prop
  | [], F, ρ, H, K => K ρ H
  | (i, L) :: rest, F, ρ, H, K => match ops[i]? with
    | none => False
    | some o =>
      if wantedM ops.toList o ρ = true then
        match cls o.op with
        | .pure => ∃ v, pureV P o.op ρ = some v ∧ vM P ops rest F (put ρ o.dst v) H K
        | .load => ∃ v, loadO P o.op ρ H = some v ∧ vM P ops rest ((i, fun H' => loadO P o.op ρ H' = some v) :: F) (put ρ o.dst v) H K
        | .alloc => ∃ cs f, allocV P o.op ρ = some (cs, f) ∧ vM P ops rest ((i, fun H' => hget H' H.length = some ⟨cs, true⟩) :: F) (put ρ o.dst (f H.length)) (H ++ [some ⟨cs, true⟩]) K
        | .eff => effM P o.op ρ H fun v H' => (∀ x ∈ F, x.1 ∈ L → x.2 H') ∧ vM P ops rest F (put ρ o.dst v) H' K
      else vM P ops rest F (put ρ o.dst (.lit undef)) H K

def wr (ops : Array Oper) (t : Tmp) : Option Nat := (List.range ops.size).find? fun j => ((ops[j]?).bind (·.dst)) == some t

def ρof (ops : Array Oper) (V : Nat → MV) (X : Nat → Bool) (ρ0 : Env) : Env := fun t => match wr ops t with
  | some j => if X j = true then V j else ρ0 t
  | none => ρ0 t

theorem wr_some {ops : Array Oper} {t : Tmp} {j : Nat} (h : wr ops t = some j) : ∃ o, ops[j]? = some o ∧ o.dst = some t := by
  have := List.find?_some h
  simp only [beq_iff_eq, Option.bind_eq_some_iff] at this
  exact this

theorem wr_of {ops : Array Oper} {pl} (hv : VOk ops pl) {j : Nat} {o : Oper} {t : Tmp} (ho : ops[j]? = some o) (hd : o.dst = some t) : wr ops t = some j := by
  have hj := (Array.getElem?_eq_some_iff.1 ho).1
  cases hw : wr ops t with
  | none =>
    have := List.find?_eq_none.1 hw j (List.mem_range.2 hj)
    simp [ho, hd] at this
  | some k =>
    obtain ⟨ok, hok, hdk⟩ := wr_some hw
    by_cases hkj : k = j
    · rw [hkj]
    · have := (hv.ssa k j ok o t hkj hok ho hd).1
      exact absurd hdk this

theorem ρof_congr {ops : Array Oper} {V V' : Nat → MV} {X : Nat → Bool} {ρ0 : Env} (h : ∀ j, X j = true → V j = V' j) : ρof ops V X ρ0 = ρof ops V' X ρ0 := by
  funext t
  unfold ρof
  cases wr ops t with
  | none => rfl
  | some j =>
    simp only
    split
    · rename_i hx; exact h j hx
    · rfl

def upd (V : Nat → MV) (i : Nat) (v : MV) : Nat → MV := fun j => if j = i then v else V j
def add (X : Nat → Bool) (i : Nat) : Nat → Bool := fun j => X j || j == i

theorem ρof_add {ops : Array Oper} {pl} (hv : VOk ops pl) {V : Nat → MV} {X : Nat → Bool} {ρ0 : Env} {i : Nat} {o : Oper} (ho : ops[i]? = some o) (hi : X i = false) :
    ρof ops V (add X i) ρ0 = put (ρof ops V X ρ0) o.dst (V i) := by
  funext t
  cases hd : o.dst with
  | none =>
    simp only [put]
    unfold ρof
    cases hw : wr ops t with
    | none => rfl
    | some j =>
      simp only
      obtain ⟨oj, hoj, hdj⟩ := wr_some hw
      have : j ≠ i := by rintro rfl; rw [ho] at hoj; cases hoj; rw [hd] at hdj; cases hdj
      simp [add, this]
  | some d =>
    simp only [put]
    split
    · rename_i he
      subst he
      unfold ρof
      rw [wr_of hv ho hd]
      simp [add]
    · rename_i he
      unfold ρof
      cases hw : wr ops t with
      | none => rfl
      | some j =>
        simp only
        obtain ⟨oj, hoj, hdj⟩ := wr_some hw
        have : j ≠ i := by rintro rfl; rw [ho] at hoj; cases hoj; rw [hd] at hdj; exact he (Option.some.inj hdj).symm
        simp [add, this]

end Go.Proofs.Ytojppdcbnpinbaa.M
