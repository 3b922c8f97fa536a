/- The small machine, eighth part: append. -/
import Derived.Test.YtojppdcbnpinbaaM7
set_option linter.unusedSimpArgs false
set_option linter.unusedVariables false
namespace Go.Proofs.Ytojppdcbnpinbaa.M
open Go

/-- What is appended: the cells of a slice. -/
def tailV (esz : Nat) (x : MV) (H : MH) : Option (List MV × Nat) :=
  match x with
  | .lit (.slice none 0 0) => some ([], 0)
  | .slice p o n _ z => if z = esz then (cellsAt H p o (n * esz)).map fun cs => (cs, n) else none
  | _ => none

/-- An append: what the new object holds, how long it is in elements, and the memory behind it (the new object is the last one); of nothing to nothing: none. -/
def appV (P : Program) (ats : Array TypeId) (s x : MV) (H : MH) : Option (Option (List MV × Nat × Nat) × MH) :=
  match ats[0]?, ats[1]? with
  | some t, some t1 =>
    match (ty P t).k, (ty P t1).k with
    | .slice esz eb (some z) _, .slice _ _ _ _ =>
      match tailV esz x H with
      | some (new, m) =>
        if 0 < esz ∧ 0 < eb ∧ z.length = esz ∧ new.all one = true ∧ eb ≤ 2 ^ 10 then
          match s with
          | .lit (.slice none 0 0) => if m = 0 then some (none, H) else if m ≤ 2 ^ 36 then some (some (new, m, esz), H ++ [some ⟨new, true⟩]) else none
          | .slice p o n _ z' =>
            match hget H p with
            | some ob => if z' = esz ∧ ob.rw = true ∧ o + n * esz = ob.cells.length ∧ n + m ≤ 2 ^ 36 then some (some (ob.cells.drop o ++ new, n + m, esz), H.set p none ++ [some ⟨ob.cells.drop o ++ new, true⟩]) else none
            | none => none
          | _ => none
        else none
      | none => none
    | _, _ => none
  | _, _ => none

theorem nextcap_le (need c : Nat) (h : c < need) (hn : need ≤ 2 ^ 36) : Builtin.nextslicecap need c ≤ 2 ^ 38 := by
  unfold Builtin.nextslicecap
  split
  · omega
  · split
    · omega
    · have : ∀ r c, c ≤ 2 ^ 37 → Builtin.growBy need r c ≤ 2 ^ 38 := by
        intro r
        induction r with
        | zero => intro c hc; unfold Builtin.growBy; omega
        | succ r ih =>
          intro c hc
          unfold Builtin.growBy
          split
          · omega
          · exact ih _ (by omega)
      exact this 4 c (by omega)

theorem run_tail {P : Program} {esz : Nat} {x : MV} {H : MH} {new : List MV} {m : Nat} (h : tailV esz x H = some (new, m)) {μ : Mu} {w : World} (hx : Ok μ x) (hr : Rel μ H w) :
    Oks μ new ∧ new.length = m * esz ∧ (Builtin.lenOf (conc μ x)).run P w = .ok m w ∧ (Builtin.firstCells esz m (conc μ x)).run P w = .ok (concs μ new).toArray w := by
  unfold tailV at h
  split at h
  · cases h
    simp [Oks, concs, conc, Builtin.lenOf, Builtin.firstCells]
  · rename_i p o n c z
    split at h
    · rename_i hz
      subst hz
      simp only [Option.map_eq_some_iff, Prod.mk.injEq] at h
      obtain ⟨cs, hcs, rfl, rfl⟩ := h
      obtain ⟨hn, l, hl, hle⟩ := by simpa [Ok] using hx
      obtain ⟨h1, h2, h3⟩ := hr.cells (P := P) hl hcs
      exact ⟨h1, h3, by simp [conc, Builtin.lenOf], by simp [conc, loc_some hl, Builtin.firstCells, h2]⟩
    · cases h
  · cases h

theorem zeroCells_length (z : Array Value) (n : Nat) : (Builtin.zeroCells z n).size = n * z.size := by simp [Builtin.zeroCells]

/-- A new block that is longer than the object that it bears. -/
theorem Rel.bindMore {μ : Mu} {H : MH} {w : World} (h : Rel μ H w) {p : Nat} {o : MO} (hp : μ p = none) (ho : hget H p = some o)
    {cs : Array Value} {t : TypeId} {rest : List Value} (hcs : cs = (concs μ o.cells ++ rest).toArray) (hok : Oks μ o.cells) {w' : World} (hw : w'.heap = w.heap.push (.cells cs t (0, 0))) :
    Rel (bind1 μ p ⟨w.heap.size, 0, o.cells.length + rest.length⟩) H w' := by
  have hle : Mle μ (bind1 μ p ⟨w.heap.size, 0, o.cells.length + rest.length⟩) := bind1_le hp
  have hold : ∀ b, b < w.heap.size → w'.heap[b]? = w.heap[b]? := fun b hb => by
    rw [hw, Array.getElem?_push]; simp [Nat.ne_of_lt hb]
  refine ⟨fun q l hq => ?_, fun q l o' hq ho' => ?_, fun q r l l' o1 o2 hq hr h1 h2 hrw hne => ?_⟩
  · unfold bind1 at hq
    split at hq
    · rename_i he; subst he; exact hget_lt ho
    · exact h.bound q l hq
  · unfold bind1 at hq
    split at hq
    · rename_i he
      subst he
      cases hq
      rw [ho] at ho'
      cases ho'
      subst hcs
      refine ⟨(concs μ o.cells ++ rest).toArray, t, (0, 0), by rw [hw]; simp, by simp [concs_map], by simp, fun _ => rfl, fun i v hv => ?_⟩
      have hv' : v ∈ o.cells := List.mem_of_getElem? hv
      have := ok_mono hle v ((oks_iff μ _).1 hok v hv')
      refine ⟨this.1, ?_⟩
      rw [this.2]
      have hi : i < o.cells.length := (List.getElem?_eq_some_iff.1 hv).1
      simp only [Nat.zero_add, List.getElem?_toArray]
      rw [List.getElem?_append_left (by simpa [concs_map] using hi)]
      simp [concs_map, hv]
    · have := h.obj q l o' hq ho'
      exact this.mono hle (hold _ this.lt)
  · unfold bind1 at hq hr
    split at hq
    · rename_i he
      subst he
      split at hr
      · rename_i he'; exact absurd he'.symm hne
      · cases hq
        have := (h.obj r l' o2 hr h2).lt
        exact Nat.ne_of_gt this
    · split at hr
      · cases hr
        have := (h.obj q l o1 hq h1).lt
        exact Nat.ne_of_lt this
      · exact h.inj q r l l' o1 o2 hq hr h1 h2 hrw hne

/-- An object dies. -/
theorem Rel.kill {μ H w} (h : Rel μ H w) (p : Nat) : Rel μ (H.set p none) w := by
  have hk : ∀ q o, hget (H.set p none) q = some o → hget H q = some o := by
    intro q o hq
    by_cases hpq : p = q
    · subst hpq
      rcases Nat.lt_or_ge p H.length with hlt | hge
      · rw [hget_set_same hlt] at hq; cases hq
      · have := hget_lt hq; simp at this; omega
    · rwa [hget_set_ne hpq] at hq
  exact ⟨fun q l hq => by rw [List.length_set]; exact h.bound q l hq, fun q l o hq ho => h.obj q l o hq (hk q o ho),
    fun q r l l' o o' hq hr ho ho' => h.inj q r l l' o o' hq hr (hk q o ho) (hk r o' ho')⟩

theorem hget_kill {H : MH} {p q : Nat} {o : MO} (hq : hget (H.set p none) q = some o) : q ≠ p ∧ hget H q = some o := by
  by_cases hpq : p = q
  · subst hpq
    rcases Nat.lt_or_ge p H.length with hlt | hge
    · rw [hget_set_same hlt] at hq; cases hq
    · have := hget_lt hq; simp at this; omega
  · exact ⟨Ne.symm hpq, by rwa [hget_set_ne hpq] at hq⟩

theorem Ext.kill {μ0 H0 w0 μ H w} (h : Ext μ0 H0 w0 μ H w) (p : Nat) : Ext μ0 H0 w0 μ (H.set p none) w :=
  ⟨h.mono, h.new, by rw [List.length_set]; exact h.hlen, h.size, fun b hb => h.owned b (by
    obtain ⟨q, l, o, hq, ho, rest⟩ := hb
    exact ⟨q, l, o, hq, (hget_kill ho).2, rest⟩), h.frame, h.same⟩

end Go.Proofs.Ytojppdcbnpinbaa.M
