/- The small machine, thirteenth part: a statement whose order of evaluation is drawn is met by the walk in the order told. -/
import Derived.Test.YtojppdcbnpinbaaM12
set_option linter.unusedSimpArgs false
set_option linter.unusedVariables false
namespace Go.Proofs.Ytojppdcbnpinbaa.M
open Go

def mem (l : List (Nat × List Nat)) : Nat → Bool := fun i => (l.map (·.1)).contains i
theorem mem_iff {l : List (Nat × List Nat)} {i : Nat} : mem l i = true ↔ i ∈ l.map (·.1) := by simp [mem]
theorem mem_snoc {l : List (Nat × List Nat)} {i : Nat} {L : List Nat} : mem (l ++ [(i, L)]) = add (mem l) i := by
  funext j
  simp only [mem, add, List.map_append, List.map_cons, List.map_nil, List.contains_eq_mem, List.mem_append, List.mem_singleton]
  by_cases h : j = i <;> by_cases h2 : j ∈ l.map (·.1) <;> simp [h, h2]

def LateP (P : Program) (ops : Array Oper) (i : Nat) (o : Oper) (ρi : Env) (v : MV) (H : MH) (F : List (Nat × (MH → Prop))) (μ : Mu) (n0 : Nat) (pos : Nat → Nat) (Aw : Nat → Bool) : Prop :=
  (wantedM ops.toList o ρi = false ∧ v = .lit undef) ∨
  (wantedM ops.toList o ρi = true ∧ cls o.op = .pure ∧ pureV P o.op ρi = some v) ∨
  (wantedM ops.toList o ρi = true ∧ cls o.op = .load ∧ loadO P o.op ρi H = some v ∧ (i, fun H' => loadO P o.op ρi H' = some v) ∈ F) ∨
  (wantedM ops.toList o ρi = true ∧ cls o.op = .alloc ∧ ∃ cs f, allocV P o.op ρi = some (cs, f) ∧ v = f (pos i) ∧ hget H (pos i) = some ⟨cs, true⟩ ∧
    (i, fun H' => hget H' (pos i) = some ⟨cs, true⟩) ∈ F ∧ μ (pos i) = none ∧ n0 ≤ pos i ∧ Aw i = true)

section
variable (P : Program) (ops : Array Oper) (pl : List (Nat × List Nat)) (N : Nat) (ρ0 : Env) (μ0 : Mu) (H0 : MH) (w0 : World) (K : Env → MH → Prop)

structure Sim (X : Nat → Bool) (don rest : List (Nat × List Nat)) (F : List (Nat × (MH → Prop))) (V : Nat → MV) (pos : Nat → Nat) (Aw : Nat → Bool) (H : MH) (μ : Mu) (a : Act) (w : World) : Prop where
  eq : pl = don ++ rest
  vm : vM P ops rest F (ρof ops V (mem don) ρ0) H K
  sub : ∀ i, X i = true → i ∈ don.map (·.1)
  eff : ∀ i ∈ don.map (·.1), ∀ o, ops[i]? = some o → cls o.op = .eff → X i = true
  tm : Tm μ (ρof ops V X ρ0) a
  sz : a.tmps.size = N
  df : a.defers = []
  rel : Rel μ H w
  ext : Ext μ0 H0 w0 μ H w
  late : ∀ p i L q o, don = p ++ (i, L) :: q → ops[i]? = some o → X i = false → LateP P ops i o (ρof ops V (mem p) ρ0) (V i) H F μ H0.length pos Aw
  inj : ∀ i j, i ∈ don.map (·.1) → j ∈ don.map (·.1) → i ≠ j → Aw i = true → Aw j = true → pos i ≠ pos j
  bnd : ∀ i, i ∈ don.map (·.1) → Aw i = true → pos i < H.length
end

section
variable {P : Program} {ops : Array Oper} {pl : List (Nat × List Nat)} {N : Nat} {ρ0 : Env} {μ0 : Mu} {H0 : MH} {w0 : World} {K : Env → MH → Prop}

def updN {α : Type} (V : Nat → α) (i : Nat) (v : α) : Nat → α := fun j => if j = i then v else V j

theorem snoc_split {don p q : List (Nat × List Nat)} {x y : Nat × List Nat} (h : don ++ [x] = p ++ y :: q) : (q = [] ∧ p = don ∧ y = x) ∨ ∃ q', q = q' ++ [x] ∧ don = p ++ y :: q' := by
  rcases List.eq_nil_or_concat q with rfl | ⟨q', z, rfl⟩
  · left
    have h' : don ++ [x] = p ++ [y] := h
    have := List.append_inj' h' rfl
    exact ⟨rfl, this.1.symm, by have := this.2; simp at this; exact this.symm⟩
  · right
    have h' : don ++ [x] = (p ++ y :: q') ++ [z] := by rw [h]; simp
    have := List.append_inj' h' rfl
    have hz : x = z := by have := this.2; simpa using this
    exact ⟨q', by rw [hz]; simp, this.1⟩

theorem LateP.step {i : Nat} {o : Oper} {ρi ρi' : Env} {v : MV} {H H' : MH} {F F' : List (Nat × (MH → Prop))} {μ : Mu} {n0 : Nat} {pos pos' : Nat → Nat} {Aw Aw' : Nat → Bool}
    (h : LateP P ops i o ρi v H F μ n0 pos Aw) (hρ : ρi' = ρi) (hF : ∀ x ∈ F, x ∈ F') (hpos : pos' i = pos i) (hAw : Aw' i = Aw i) (hH : H' = H ∨ ∃ x, H' = H ++ [x]) :
    LateP P ops i o ρi' v H' F' μ n0 pos' Aw' := by
  subst hρ
  rcases h with h | h | ⟨h1, h2, h3, h4⟩ | ⟨h1, h2, cs, f, h3, h4, h5, h6, h7, h8, h9⟩
  · exact .inl h
  · exact .inr (.inl h)
  · refine .inr (.inr (.inl ⟨h1, h2, ?_, hF _ h4⟩))
    rcases hH with rfl | ⟨x, rfl⟩
    · exact h3
    · exact loadO_grow h3 x
  · refine .inr (.inr (.inr ⟨h1, h2, cs, f, h3, by rw [hpos]; exact h4, ?_, by rw [hpos]; exact hF _ h6, by rw [hpos]; exact h7, by rw [hpos]; exact h8, by rw [hAw]; exact h9⟩))
    rw [hpos]
    rcases hH with rfl | ⟨x, rfl⟩
    · exact h5
    · rw [hget_append (hget_lt h5)]; exact h5

/-- The told walk goes on by itself to the next operation that writes or calls. -/
theorem Sim.advance (hv : VOk ops pl) {X : Nat → Bool} {a : Act} {w : World} {μ : Mu} : ∀ (rest don : List (Nat × List Nat)) (F : List (Nat × (MH → Prop))) (V : Nat → MV) (pos : Nat → Nat) (Aw : Nat → Bool) (H : MH),
    Sim P ops pl N ρ0 μ0 H0 w0 K X don rest F V pos Aw H μ a w →
    ∃ don' rest' F' V' pos' Aw' H', Sim P ops pl N ρ0 μ0 H0 w0 K X don' rest' F' V' pos' Aw' H' μ a w ∧ (rest' = [] ∨ ∃ e L r o, rest' = (e, L) :: r ∧ ops[e]? = some o ∧ cls o.op = .eff)
  | [], don, F, V, pos, Aw, H, s => ⟨don, [], F, V, pos, Aw, H, s, .inl rfl⟩
  | (i, L) :: rest, don, F, V, pos, Aw, H, s => by
    obtain ⟨o, ho, hni, hedge, hj⟩ := hv.top don rest i L s.eq
    by_cases he : cls o.op = .eff
    · exact ⟨don, (i, L) :: rest, F, V, pos, Aw, H, s, .inr ⟨i, L, rest, o, rfl, ho, he⟩⟩
    have hXi : X i = false := by
      cases hx : X i with
      | false => rfl
      | true => exact absurd (s.sub i hx) hni
    have hmi : mem don i = false := by
      cases hx : mem don i with
      | false => rfl
      | true => exact absurd (mem_iff.1 hx) hni
    have key : ∀ (v : MV) (F' : List (Nat × (MH → Prop))) (pos' : Nat → Nat) (Aw' : Nat → Bool) (H' : MH), (∀ x ∈ F, x ∈ F') → (∀ j, j ≠ i → pos' j = pos j ∧ Aw' j = Aw j) → (H' = H ∨ ∃ x, H' = H ++ [x]) →
        (Aw' i = true → pos' i = H.length ∧ ∃ x, H' = H ++ [x]) →
        vM P ops rest F' (put (ρof ops V (mem don) ρ0) o.dst v) H' K → LateP P ops i o (ρof ops V (mem don) ρ0) v H' F' μ H0.length pos' Aw' →
        Sim P ops pl N ρ0 μ0 H0 w0 K X (don ++ [(i, L)]) rest F' (upd V i v) pos' Aw' H' μ a w := by
      intro v F' pos' Aw' H' hF hpos hH hAi hvm hlate
      have hcong : ∀ Y : Nat → Bool, Y i = false → ρof ops (upd V i v) Y ρ0 = ρof ops V Y ρ0 := fun Y hY => ρof_congr fun j hj2 => by
        unfold upd
        rw [if_neg]
        rintro rfl
        rw [hY] at hj2; cases hj2
      have hHlen : H.length ≤ H'.length := by rcases hH with rfl | ⟨x, rfl⟩ <;> simp
      refine ⟨by rw [s.eq]; simp, ?_, fun j hj => by simp [s.sub j hj], fun j hjm oj hoj hc => ?_, ?_, s.sz, s.df, ?_, ?_, fun p j L' q oj hsp hoj hXj => ?_, fun j k hjm hkm hne h1 h2 => ?_, fun j hjm h1 => ?_⟩
      · rw [mem_snoc, ρof_add hv ho hmi, hcong _ hmi]
        simpa [upd] using hvm
      · simp only [List.map_append, List.map_cons, List.map_nil, List.mem_append, List.mem_singleton] at hjm
        rcases hjm with h1 | rfl
        · exact s.eff j h1 oj hoj hc
        · rw [ho] at hoj; cases hoj; exact absurd hc he
      · rw [hcong X hXi]; exact s.tm
      · rcases hH with rfl | ⟨x, rfl⟩
        · exact s.rel
        · exact s.rel.grow x
      · rcases hH with rfl | ⟨x, rfl⟩
        · exact s.ext
        · exact s.ext.grow s.rel x
      · rcases snoc_split hsp with ⟨rfl, rfl, hy⟩ | ⟨q', rfl, hd⟩
        · cases hy
          rw [ho] at hoj; cases hoj
          rw [hcong _ hmi]
          simpa [upd] using hlate
        · have hjd : j ∈ don.map (·.1) := by rw [hd]; simp
          have hji : j ≠ i := by rintro rfl; exact hni hjd
          have hmp : mem p i = false := by
            cases hx : mem p i with
            | false => rfl
            | true => exact absurd (by rw [hd]; simp only [List.map_append, List.mem_append]; exact .inl (mem_iff.1 hx)) hni
          have := s.late p j L' q' oj hd hoj hXj
          have hvj : upd V i v j = V j := by simp [upd, hji]
          rw [hvj]
          exact this.step (hcong _ hmp) hF (hpos j hji).1 (hpos j hji).2 hH
      · simp only [List.map_append, List.map_cons, List.map_nil, List.mem_append, List.mem_singleton] at hjm hkm
        rcases hjm with hjm | rfl
        · have hji : j ≠ i := by rintro rfl; exact hni hjm
          rw [(hpos j hji).2] at h1
          rw [(hpos j hji).1]
          rcases hkm with hkm | rfl
          · have hki : k ≠ i := by rintro rfl; exact hni hkm
            rw [(hpos k hki).2] at h2
            rw [(hpos k hki).1]
            exact s.inj j k hjm hkm hne h1 h2
          · rw [(hAi h2).1]
            have := s.bnd j hjm h1
            omega
        · rcases hkm with hkm | rfl
          · have hki : k ≠ j := by rintro rfl; exact hni hkm
            rw [(hpos k hki).2] at h2
            rw [(hpos k hki).1, (hAi h1).1]
            have := s.bnd k hkm h2
            omega
          · exact absurd rfl hne
      · simp only [List.map_append, List.map_cons, List.map_nil, List.mem_append, List.mem_singleton] at hjm
        rcases hjm with hjm | rfl
        · have hji : j ≠ i := by rintro rfl; exact hni hjm
          rw [(hpos j hji).2] at h1
          rw [(hpos j hji).1]
          have := s.bnd j hjm h1
          omega
        · obtain ⟨h2, x, rfl⟩ := hAi h1
          rw [h2]; simp
    have hvm := s.vm
    simp only [vM, ho] at hvm
    by_cases hw : wantedM ops.toList o (ρof ops V (mem don) ρ0) = true
    · rw [if_pos hw] at hvm
      cases hc : cls o.op with
      | pure =>
        rw [hc] at hvm
        obtain ⟨v, hv1, hv2⟩ := hvm
        exact Sim.advance hv rest _ _ _ _ _ _ (key v F pos (updN Aw i false) H (fun x hx => hx) (fun j hj => ⟨rfl, by simp [updN, hj]⟩) (.inl rfl) (by simp [updN]) hv2 (.inr (.inl ⟨hw, hc, hv1⟩)))
      | load =>
        rw [hc] at hvm
        obtain ⟨v, hv1, hv2⟩ := hvm
        exact Sim.advance hv rest _ _ _ _ _ _ (key v _ pos (updN Aw i false) H (fun x hx => List.mem_cons_of_mem _ hx) (fun j hj => ⟨rfl, by simp [updN, hj]⟩) (.inl rfl) (by simp [updN]) hv2
          (.inr (.inr (.inl ⟨hw, hc, hv1, List.mem_cons_self ..⟩))))
      | alloc =>
        rw [hc] at hvm
        obtain ⟨cs, f, hv1, hv2⟩ := hvm
        have hpi : updN pos i H.length i = H.length := by simp [updN]
        refine Sim.advance hv rest _ _ _ _ _ _ (key (f H.length) _ (updN pos i H.length) (updN Aw i true) (H ++ [some ⟨cs, true⟩]) (fun x hx => List.mem_cons_of_mem _ hx) (fun j hj => ⟨by simp [updN, hj], by simp [updN, hj]⟩)
          (.inr ⟨_, rfl⟩) (fun _ => ⟨by simp [updN], _, rfl⟩) hv2 (.inr (.inr (.inr ⟨hw, hc, cs, f, hv1, by rw [hpi], by rw [hpi]; exact hget_append_new, ?_, by rw [hpi]; exact s.rel.unbound (Nat.le_refl _), by rw [hpi]; exact s.ext.hlen, by simp [updN]⟩))))
        rw [hpi]
        exact List.mem_cons_self ..
      | eff => exact absurd hc he
    · rw [if_neg hw] at hvm
      exact Sim.advance hv rest _ _ _ _ _ _ (key (.lit undef) F pos (updN Aw i false) H (fun x hx => hx) (fun j hj => ⟨rfl, by simp [updN, hj]⟩) (.inl rfl) (by simp [updN]) hvm (.inl ⟨by simpa using hw, rfl⟩))

end
end Go.Proofs.Ytojppdcbnpinbaa.M
