/- The small machine, fourteenth part: a statement whose order is drawn, whole. -/
import Derived.Test.YtojppdcbnpinbaaM13
set_option linter.unusedSimpArgs false
set_option linter.unusedVariables false
namespace Go.Proofs.Ytojppdcbnpinbaa.M
open Go

section
variable {P : Program} {ops : Array Oper} {pl : List (Nat × List Nat)} {N : Nat} {ρ0 : Env} {μ0 : Mu} {H0 : MH} {w0 : World} {K : Env → MH → Prop}

/-- What an operation looks at is the same in the told walk and in the real one. -/
theorem look_same (hv : VOk ops pl) {X : Nat → Bool} (hcl : Closed ops X) {i : Nat} {o : Oper} (ho : ops[i]? = some o) (hXi : X i = false)
    (hr : ∀ e ∈ o.after, Region.binds .any e = true → X e.on = true) {p q : List (Nat × List Nat)} {L : List Nat} (hpl : pl = p ++ (i, L) :: q) {V : Nat → MV} :
    ∀ t ∈ o.looksAt ops, ρof ops V (mem p) ρ0 t = ρof ops V X ρ0 t := by
  intro t ht
  unfold ρof
  cases hw : wr ops t with
  | none => rfl
  | some j =>
    simp only
    obtain ⟨oj, hoj, hdj⟩ := wr_some hw
    obtain ⟨o', ho', hni, hedge, _⟩ := hv.top p q i L hpl
    rw [ho] at ho'; cases ho'
    have hj : mem p j = X j := by
      by_cases hji : j = i
      · subst hji
        rw [hXi]
        cases hx : mem p j with
        | false => rfl
        | true => exact absurd (mem_iff.1 hx) hni
      · rcases (hv.ssa i j o oj t (Ne.symm hji) ho hoj hdj).2 ht with h | h
        · -- j stands ahead of i
          have hx := anc_ready hcl ho hr h
          have hpcl : Closed ops (mem p) := by
            intro k ok hok hk e he hb
            have hkm := mem_iff.1 hk
            obtain ⟨⟨k', L'⟩, hkm', rfl⟩ := List.mem_map.1 hkm
            obtain ⟨p1, p2, rfl⟩ := List.append_of_mem hkm'
            obtain ⟨o2, ho2, _, hed, _⟩ := hv.top p1 (p2 ++ (i, L) :: q) k' L' (by rw [hpl]; simp)
            simp only at hok
            rw [hok] at ho2; cases ho2
            have := hed e he hb
            rw [mem_iff]
            simp only [List.map_append, List.mem_append]
            exact .inl this
          have hm := anc_ready hpcl ho (fun e he hb => mem_iff.2 (hedge e he hb)) h
          rw [hx, hm]
        · -- i stands ahead of j
          have hxj : X j = false := by
            cases hx : X j with
            | false => rfl
            | true => have := hcl.anc h hx; rw [hXi] at this; cases this
          have hmj : mem p j = false := by
            cases hx : mem p j with
            | false => rfl
            | true =>
              exfalso
              obtain ⟨⟨j', L'⟩, hjm', hje⟩ := List.mem_map.1 (mem_iff.1 hx)
              simp only at hje
              subst hje
              obtain ⟨p1, p2, rfl⟩ := List.append_of_mem hjm'
              have hp1cl : Closed ops (mem p1) := by
                intro k ok hok hk e he hb
                have hkm := mem_iff.1 hk
                obtain ⟨⟨k', L2⟩, hkm', rfl⟩ := List.mem_map.1 hkm
                obtain ⟨p3, p4, rfl⟩ := List.append_of_mem hkm'
                obtain ⟨o2, ho2, _, hed, _⟩ := hv.top p3 (p4 ++ (j', L') :: (p2 ++ (i, L) :: q)) k' L2 (by rw [hpl]; simp)
                simp only at hok
                rw [hok] at ho2; cases ho2
                have := hed e he hb
                rw [mem_iff]
                simp only [List.map_append, List.mem_append]
                exact .inl this
              obtain ⟨o2, ho2, _, hed, _⟩ := hv.top p1 (p2 ++ (i, L) :: q) j' L' (by rw [hpl]; simp)
              have := anc_ready hp1cl ho2 (fun e he hb => mem_iff.2 (hed e he hb)) h
              refine hni ?_
              simp only [List.map_append, List.mem_append]
              exact .inl (mem_iff.1 this)
          rw [hxj, hmj]
    rw [hj]

theorem mem_split {l : List (Nat × List Nat)} {i : Nat} (h : i ∈ l.map (·.1)) : ∃ p L q, l = p ++ (i, L) :: q := by
  obtain ⟨⟨i', L⟩, hm, he⟩ := List.mem_map.1 h
  simp only at he
  subst he
  obtain ⟨p, q, rfl⟩ := List.append_of_mem hm
  exact ⟨p, L, q, rfl⟩

/-- The real walk comes to an operation that the told one has left behind. -/
theorem Sim.list (hv : VOk ops pl) (hok : opsOk N ops.toList = true) {X : Nat → Bool} (hcl : Closed ops X) {don rest F V pos Aw H μ a w} (s : Sim P ops pl N ρ0 μ0 H0 w0 K X don rest F V pos Aw H μ a w)
    {i : Nat} {o : Oper} (ho : ops[i]? = some o) (hXi : X i = false) (hr : ∀ e ∈ o.after, Region.binds .any e = true → X e.on = true) (hi : i ∈ don.map (·.1)) {Q : Exit → Act → World → Prop} {next : Act → World → Prop}
    (hn : ∀ μ' a' w', Sim P ops pl N ρ0 μ0 H0 w0 K (add X i) don rest F V pos Aw H μ' a' w' → next a' w') : wpOp P ops Q i next a w := by
  obtain ⟨p, L, q, hd⟩ := mem_split hi
  have hlook := look_same (V := V) (ρ0 := ρ0) hv hcl ho hXi hr (p := p) (q := q ++ rest) (L := L) (by rw [s.eq, hd]; simp)
  have hL := s.late p i L q o hd ho hXi
  have hops := look_ops hlook
  have hwant := look_want hlook
  have hdst : ∀ t, o.dst = some t → t < a.tmps.size := by
    intro t ht
    have h1 := List.all_eq_true.1 hok o (Array.mem_toList_iff.2 (Array.mem_of_getElem? ho))
    rw [ht] at h1
    rw [s.sz]; simpa using h1
  have hadd : ∀ j, j ≠ i → add X i j = X j := fun j hj => by simp [add, hj]
  have fin : ∀ (μ' : Mu) (w' : World), Mle μ μ' → Ok μ' (V i) → Rel μ' H w' → Ext μ0 H0 w0 μ' H w' → (∀ j, j ≠ i → Aw j = true → j ∈ don.map (·.1) → μ (pos j) = none → μ' (pos j) = none) →
      Sim P ops pl N ρ0 μ0 H0 w0 K (add X i) don rest F V pos Aw H μ' (a.put o.dst (conc μ' (V i))) w' := by
    intro μ' w' hm hokv hrel hext hun
    refine ⟨s.eq, s.vm, fun j hj => ?_, fun j hjm oj hoj hc => ?_, ?_, by rw [put_size]; exact s.sz, by rw [put_defers]; exact s.df, hrel, hext, fun p' j L' q' oj hsp hoj hXj => ?_, s.inj, s.bnd⟩
    · by_cases hji : j = i
      · rw [hji]; exact hi
      · rw [hadd j hji] at hj; exact s.sub j hj
    · by_cases hji : j = i
      · simp [add, hji]
      · rw [hadd j hji]; exact s.eff j hjm oj hoj hc
    · rw [ρof_add hv ho hXi]
      exact (s.tm.mono hm).put _ hdst hokv
    · have hji : j ≠ i := by rintro rfl; simp [add] at hXj
      rw [hadd j hji] at hXj
      rcases s.late p' j L' q' oj hsp hoj hXj with h | h | h | ⟨h1, h2, cs, f, h3, h4, h5, h6, h7, h8, h9⟩
      · exact .inl h
      · exact .inr (.inl h)
      · exact .inr (.inr (.inl h))
      · exact .inr (.inr (.inr ⟨h1, h2, cs, f, h3, h4, h5, h6, hun j hji h9 (by rw [hsp]; simp) h7, h8, h9⟩))
  unfold wpOp
  rw [ho]
  simp only
  rw [wanted_sound s.tm, ← hwant]
  rcases hL with ⟨h1, h2⟩ | ⟨h1, h2, h3⟩ | ⟨h1, h2, h3, h4⟩ | ⟨h1, h2, cs, f, h3, h4, h5, h6, h7, h8, h9⟩
  · rw [h1]
    simp only [Bool.false_eq_true, if_false]
    have := fin μ w (Mle.refl μ) (by rw [h2]; simp [Ok]) s.rel s.ext (fun _ _ _ _ h => h)
    rw [h2, conc] at this
    exact hn _ _ _ this
  · rw [h1]
    simp only [if_true]
    rw [pureV_congr hops] at h3
    have := pure_sound h3 s.tm
    refine .inl ?_
    unfold Oper.wp
    rw [this.1 w, Oper.upon_value]
    exact hn _ _ _ (fin μ w (Mle.refl μ) this.2 s.rel s.ext (fun _ _ _ _ h => h))
  · rw [h1]
    simp only [if_true]
    rw [loadO_congr hops] at h3
    refine .inl ?_
    unfold loadO at h3
    split at h3
    · rename_i t x he
      have := load_sound h3 s.tm s.rel o he
      unfold Oper.wp
      rw [this.1, Oper.upon_value]
      exact hn _ _ _ (fin μ w (Mle.refl μ) this.2 s.rel s.ext (fun _ _ _ _ h => h))
    · cases h3
  · rw [h1]
    simp only [if_true]
    rw [allocV_congr hops] at h3
    refine .inl ?_
    obtain ⟨hokc, v, t, hrun, hval⟩ := alloc_sound h3 s.tm w
    unfold Oper.wp
    rw [hrun, Oper.upon_value]
    have hb := s.rel.bind h7 h5 (cs := (concs μ cs).toArray) (t := t) rfl hokc (w' := { w with heap := w.heap.push (.cells (concs μ cs).toArray t) }) rfl
    have he := s.ext.bind h7 h8 (l := ⟨w.heap.size, 0, cs.length⟩) (x := .cells (concs μ cs).toArray t) rfl (w' := { w with heap := w.heap.push (.cells (concs μ cs).toArray t) }) rfl
    obtain ⟨hc1, hc2⟩ := hval _ (pos i) (show bind1 μ (pos i) ⟨w.heap.size, 0, cs.length⟩ (pos i) = _ by simp [bind1])
    rw [← hc1, ← h4]
    refine hn _ _ _ (fin _ _ (bind1_le h7) (by rw [h4]; exact hc2) hb he fun j hji hAj hjm hun => ?_)
    have := s.inj j i hjm hi hji hAj h9
    simp [bind1, this, hun]

/-- The real walk comes to the next operation that writes or calls. -/
theorem Sim.effect (hv : VOk ops pl) (hok : opsOk N ops.toList = true) {X : Nat → Bool} (hcl : Closed ops X) {don rest F V pos Aw H μ a w} {e : Nat} {L : List Nat}
    (s : Sim P ops pl N ρ0 μ0 H0 w0 K X don ((e, L) :: rest) F V pos Aw H μ a w)
    {o : Oper} (ho : ops[e]? = some o) (hXe : X e = false) (hr : ∀ d ∈ o.after, Region.binds .any d = true → X d.on = true) (hce : cls o.op = .eff) {Q : Exit → Act → World → Prop} {next : Act → World → Prop}
    (hn : ∀ don' rest' F' V' pos' Aw' H' μ' a' w', Sim P ops pl N ρ0 μ0 H0 w0 K (add X e) don' rest' F' V' pos' Aw' H' μ' a' w' → next a' w') : wpOp P ops Q e next a w := by
  have hpl : pl = don ++ (e, L) :: rest := s.eq
  have hlook := look_same (V := V) (ρ0 := ρ0) hv hcl ho hXe hr hpl
  have hops := look_ops hlook
  have hwant := look_want hlook
  obtain ⟨o', ho', hni, hedge, hj⟩ := hv.top don rest e L hpl
  rw [ho] at ho'; cases ho'
  have hme : mem don e = false := by
    cases hx : mem don e with
    | false => rfl
    | true => exact absurd (mem_iff.1 hx) hni
  have hdst : ∀ t, o.dst = some t → t < a.tmps.size := by
    intro t ht
    have h1 := List.all_eq_true.1 hok o (Array.mem_toList_iff.2 (Array.mem_of_getElem? ho))
    rw [ht] at h1
    rw [s.sz]; simpa using h1
  have hadd : ∀ j, j ≠ e → add X e j = X j := fun j hj => by simp [add, hj]
  have hcong : ∀ (v : MV) (Y : Nat → Bool), Y e = false → ρof ops (upd V e v) Y ρ0 = ρof ops V Y ρ0 := fun v Y hY => ρof_congr fun j hj2 => by
    unfold upd
    rw [if_neg]
    rintro rfl
    rw [hY] at hj2; cases hj2
  have fin : ∀ (v : MV) (H' : MH) (μ' : Mu) (w' : World), Ok μ' v → Rel μ' H' w' → Ext μ H w μ' H' w' → (H' = H ∨ ∀ x ∈ F, x.1 ∈ L → x.2 H') →
      vM P ops rest F (put (ρof ops V (mem don) ρ0) o.dst v) H' K →
      Sim P ops pl N ρ0 μ0 H0 w0 K (add X e) (don ++ [(e, L)]) rest F (upd V e v) pos (updN Aw e false) H' μ' (a.put o.dst (conc μ' v)) w' := by
    intro v H' μ' w' hokv hrel hext hF hvm
    refine ⟨by rw [hpl]; simp, ?_, fun j hjx => ?_, fun j hjm oj hoj hc => ?_, ?_, by rw [put_size]; exact s.sz, by rw [put_defers]; exact s.df, hrel, s.ext.trans hext, fun p j L' q oj hsp hoj hXj => ?_, fun j k hjm hkm hne h1 h2 => ?_, fun j hjm h1 => ?_⟩
    · rw [mem_snoc, ρof_add hv ho hme, hcong v _ hme]
      simpa [upd] using hvm
    · by_cases hje : j = e
      · rw [hje]; simp
      · rw [hadd j hje] at hjx
        simp only [List.map_append, List.mem_append]
        exact .inl (s.sub j hjx)
    · by_cases hje : j = e
      · simp [add, hje]
      · rw [hadd j hje]
        simp only [List.map_append, List.map_cons, List.map_nil, List.mem_append, List.mem_singleton] at hjm
        exact s.eff j (hjm.resolve_right hje) oj hoj hc
    · rw [ρof_add hv ho hXe, hcong v _ hXe]
      have := (s.tm.mono hext.mono).put o.dst hdst hokv
      simpa [upd] using this
    · have hje : j ≠ e := by rintro rfl; simp [add] at hXj
      rw [hadd j hje] at hXj
      rcases snoc_split hsp with ⟨rfl, rfl, hy⟩ | ⟨q', rfl, hd⟩
      · cases hy; exact absurd rfl hje
      · have hjd : j ∈ don.map (·.1) := by rw [hd]; simp
        have hmp : mem p e = false := by
          cases hx : mem p e with
          | false => rfl
          | true => exact absurd (by rw [hd]; simp only [List.map_append, List.mem_append]; exact .inl (mem_iff.1 hx)) hni
        have hvj : upd V e v j = V j := by simp [upd, hje]
        rw [hvj, hcong v _ hmp]
        have hnotanc : ¬ Anc ops j e := fun h => by have := anc_ready hcl ho hr h; rw [hXj] at this; cases this
        have hA : updN Aw e false j = Aw j := by simp [updN, hje]
        rcases s.late p j L' q' oj hd hoj hXj with h | h | ⟨h1, h2, h3, h4⟩ | ⟨h1, h2, cs, f, h3, h4, h5, h6, h7, h8, h9⟩
        · exact .inl h
        · exact .inr (.inl h)
        · have hl : j ∈ L := ((hj j hjd oj hoj).2 hce (.inl h2)).resolve_left hnotanc
          exact .inr (.inr (.inl ⟨h1, h2, hF.elim (fun he => by rw [he]; exact h3) (fun hF => hF _ h4 hl), h4⟩))
        · have hl : j ∈ L := ((hj j hjd oj hoj).2 hce (.inr h2)).resolve_left hnotanc
          refine .inr (.inr (.inr ⟨h1, h2, cs, f, h3, h4, hF.elim (fun he => by rw [he]; exact h5) (fun hF => hF _ h6 hl), h6, ?_, h8, by rw [hA]; exact h9⟩))
          cases hx : μ' (pos j) with
          | none => rfl
          | some l =>
            rcases hext.new _ _ hx with h | h
            · rw [h7] at h; cases h
            · have := hget_lt h5; omega
    · have hne' : ∀ j, updN Aw e false j = true → j ≠ e := fun j h => by rintro rfl; simp [updN] at h
      have hje := hne' j h1
      have hke := hne' k h2
      simp only [List.map_append, List.map_cons, List.map_nil, List.mem_append, List.mem_singleton] at hjm hkm
      exact s.inj j k (hjm.resolve_right hje) (hkm.resolve_right hke) hne (by simpa [updN, hje] using h1) (by simpa [updN, hke] using h2)
    · have hje : j ≠ e := by rintro rfl; simp [updN] at h1
      simp only [List.map_append, List.map_cons, List.map_nil, List.mem_append, List.mem_singleton] at hjm
      have := s.bnd j (hjm.resolve_right hje) (by simpa [updN, hje] using h1)
      have := hext.hlen
      omega
  have hvm := s.vm
  simp only [vM, ho] at hvm
  unfold wpOp
  rw [ho]
  simp only
  rw [wanted_sound s.tm, ← hwant]
  by_cases hw : wantedM ops.toList o (ρof ops V (mem don) ρ0) = true
  · rw [if_pos hw] at hvm
    rw [if_pos hw]
    rw [hce] at hvm
    have hvm' := effM_congr hops hvm
    refine .inl (eff_sound hvm' s.tm s.rel fun v H' μ' w' hk hokv hrel hext => ?_)
    exact hn _ _ _ _ _ _ _ _ _ _ (fin v H' μ' w' hokv hrel hext (.inr hk.1) hk.2)
  · rw [if_neg hw] at hvm
    rw [if_neg hw]
    have := fin (.lit undef) H μ w (by simp [Ok]) s.rel (Ext.refl _ _ _) (.inl rfl) hvm
    rw [conc] at this
    exact hn _ _ _ _ _ _ _ _ _ _ this


theorem count_set {n : Nat} {X Y : Nat → Bool} {i : Nat} (hi : i < n) (hX : X i = false) (hY : ∀ j, Y j = add X i j) : ((List.range n).countP fun j => !Y j) + 1 ≤ (List.range n).countP fun j => !X j := by
  induction n with
  | zero => omega
  | succ n ih =>
    rw [List.range_succ, List.countP_append, List.countP_append, List.countP_singleton, List.countP_singleton]
    by_cases hin : i = n
    · subst hin
      have h1 : (List.range i).countP (fun j => !Y j) = (List.range i).countP (fun j => !X j) := by
        refine List.countP_congr fun j hj => ?_
        have : j ≠ i := Nat.ne_of_lt (List.mem_range.1 hj)
        simp [hY, add, this]
      rw [h1]
      simp [hY, add, hX]
    · have := ih (by omega)
      have h2 : (!Y n) = (!X n) := by
        have : n ≠ i := fun h => hin h.symm
        simp [hY, add, this]
      rw [h2]
      omega

/-- Whatever order is drawn. -/
theorem sim_any (hv : VOk ops pl) (hok : opsOk N ops.toList = true) {Q : Exit → Act → World → Prop} (hQ : ∀ ρ H μ a w, K ρ H → St N μ0 H0 w0 ρ H μ a w → Q .normal a w) :
    ∀ (fuel : Nat) (listed : Array Bool) (a : Act) (w : World), listed.size = ops.size → Closed ops (fun i => listed.getD i false) → ((List.range ops.size).countP fun j => !listed.getD j false) ≤ fuel →
      (∃ don rest F V pos Aw H μ, Sim P ops pl N ρ0 μ0 H0 w0 K (fun i => listed.getD i false) don rest F V pos Aw H μ a w) → wpAny P .any ops Q fuel listed a w := by
  have hnil : ∀ (listed : Array Bool) (a : Act) (w : World), listed.size = ops.size → Closed ops (fun i => listed.getD i false) → Region.ready .any ops listed = [] →
      (∃ don rest F V pos Aw H μ, Sim P ops pl N ρ0 μ0 H0 w0 K (fun i => listed.getD i false) don rest F V pos Aw H μ a w) → Q .normal a w := by
    intro listed a w hsz hcl hre ⟨don, rest, F, V, pos, Aw, H, μ, s⟩
    have hall : ∀ (n : Nat) (p q : List (Nat × List Nat)) (i : Nat) (L : List Nat), p.length ≤ n → pl = p ++ (i, L) :: q → listed.getD i false = true := by
      intro n
      induction n with
      | zero =>
        intro p q i L hp hpl
        have : p = [] := List.length_eq_zero_iff.1 (by omega)
        subst this
        obtain ⟨o, ho, _, hed, _⟩ := hv.top [] q i L hpl
        cases hx : listed.getD i false with
        | true => rfl
        | false =>
          have hlt := (Array.getElem?_eq_some_iff.1 ho).1
          have : i ∈ Region.ready .any ops listed := mem_ready.2 ⟨by simpa [Array.getD_eq_getD_getElem?, hsz, hlt] using hx, o, ho, fun e he hb => by have := hed e he hb; simp at this⟩
          rw [hre] at this; cases this
      | succ n ih =>
        intro p q i L hp hpl
        obtain ⟨o, ho, _, hed, _⟩ := hv.top p q i L hpl
        cases hx : listed.getD i false with
        | true => rfl
        | false =>
          have hlt := (Array.getElem?_eq_some_iff.1 ho).1
          have : i ∈ Region.ready .any ops listed := mem_ready.2 ⟨by simpa [Array.getD_eq_getD_getElem?, hsz, hlt] using hx, o, ho, fun e he hb => by
            obtain ⟨p1, L1, p2, rfl⟩ := mem_split (hed e he hb)
            refine ih p1 (p2 ++ (i, L) :: q) e.on L1 ?_ (by rw [hpl]; simp)
            simp at hp
            omega⟩
          rw [hre] at this; cases this
    have hrest : rest = [] := by
      cases rest with
      | nil => rfl
      | cons x r =>
        obtain ⟨e, L⟩ := x
        have h1 := hall don.length don r e L (Nat.le_refl _) s.eq
        obtain ⟨o, ho, hni, _⟩ := hv.top don r e L s.eq
        exact absurd (s.sub e h1) hni
    subst hrest
    have hsame : mem don = fun i => listed.getD i false := by
      funext i
      cases hx : listed.getD i false with
      | true => exact mem_iff.2 (s.sub i hx)
      | false =>
        cases hm : mem don i with
        | false => rfl
        | true =>
          obtain ⟨p, L, q, rfl⟩ := mem_split (mem_iff.1 hm)
          have := hall p.length p q i L (Nat.le_refl _) (by rw [s.eq]; simp)
          rw [hx] at this; cases this
    have hk := s.vm
    simp only [vM] at hk
    rw [hsame] at hk
    exact hQ _ _ _ _ _ hk ⟨s.tm, s.sz, s.df, s.rel, s.ext⟩
  intro fuel
  induction fuel with
  | zero =>
    intro listed a w hsz hcl hcnt hs
    have hre : Region.ready .any ops listed = [] := by
      cases hr : Region.ready .any ops listed with
      | nil => rfl
      | cons i r =>
        exfalso
        have hi : i ∈ Region.ready .any ops listed := by rw [hr]; exact List.mem_cons_self ..
        obtain ⟨hun, o, ho, _⟩ := mem_ready.1 hi
        have hlt := (Array.getElem?_eq_some_iff.1 ho).1
        have : 0 < (List.range ops.size).countP fun j => !listed.getD j false := by
          refine List.countP_pos_iff.2 ⟨i, List.mem_range.2 hlt, ?_⟩
          simpa [Array.getD_eq_getD_getElem?, hsz, hlt] using hun
        omega
    exact ⟨hre, hnil listed a w hsz hcl hre hs⟩
  | succ fuel ih =>
    intro listed a w hsz hcl hcnt hs
    refine ⟨fun hre => hnil listed a w hsz hcl hre hs, fun i hi => ?_⟩
    obtain ⟨hun, o, ho, hed⟩ := mem_ready.1 hi
    have hlt := (Array.getElem?_eq_some_iff.1 ho).1
    have hXi : (fun i => listed.getD i false) i = false := by simpa [Array.getD_eq_getD_getElem?, hsz, hlt] using hun
    have hadd : (fun j => (listed.setIfInBounds i true).getD j false) = add (fun i => listed.getD i false) i := by
      funext j
      by_cases hji : j = i
      · subst hji; simp [add, hsz, hlt]
      · have : (j == i) = false := by simp [hji]
        simp only [add, this, Bool.or_false]
        exact getD_set_ne false (Ne.symm hji)
    have hcl' : Closed ops (fun j => (listed.setIfInBounds i true).getD j false) := by
      rw [hadd]
      intro k ok hok hk e he hb
      by_cases hki : k = i
      · subst hki
        rw [ho] at hok; cases hok
        simp [add, hed e he hb]
      · have : (k == i) = false := by simp [hki]
        simp only [add, this, Bool.or_false] at hk
        have h3 : listed.getD e.on false = true := hcl k ok hok hk e he hb
        simp only [add]
        rw [h3]
        rfl
    have hcnt' : ((List.range ops.size).countP fun j => !(listed.setIfInBounds i true).getD j false) ≤ fuel := by
      have := count_set (n := ops.size) (X := fun i => listed.getD i false) (Y := fun j => (listed.setIfInBounds i true).getD j false) (i := i) hlt hXi (fun j => congrFun hadd j)
      omega
    obtain ⟨don0, rest0, F0, V0, pos0, Aw0, H1, μ1, s0⟩ := hs
    obtain ⟨don, rest, F, V, pos, Aw, H, s, hhead⟩ := Sim.advance hv rest0 don0 F0 V0 pos0 Aw0 H1 s0
    by_cases hid : i ∈ don.map (·.1)
    · refine s.list hv hok hcl ho hXi hed hid fun μ' a' w' s' => ih _ _ _ (by simpa using hsz) hcl' hcnt' ⟨don, rest, F, V, pos, Aw, H, μ', ?_⟩
      rw [hadd]; exact s'
    · have hipl := hv.all i hlt
      rw [s.eq, List.map_append, List.mem_append] at hipl
      have hir := hipl.resolve_left hid
      rcases hhead with rfl | ⟨e, L, r, oe, rfl, hoe, hce⟩
      · simp at hir
      · have hei : i = e := by
          simp only [List.map_cons, List.mem_cons] at hir
          rcases hir with h | h
          · exact h
          · obtain ⟨p, L', q, rfl⟩ := mem_split h
            obtain ⟨o2, ho2, _, _, hj⟩ := hv.top (don ++ (e, L) :: p) q i L' (by rw [s.eq]; simp)
            have hanc := (hj e (by simp) oe hoe).1 hce
            have hxe := anc_ready hcl ho hed hanc
            obtain ⟨_, _, hni, _⟩ := hv.top don _ e L s.eq
            exact absurd (s.sub e hxe) hni
        subst hei
        refine s.effect hv hok hcl hoe hXi (by rw [ho] at hoe; cases hoe; exact hed) hce fun don' rest' F' V' pos' Aw' H' μ' a' w' s' => ih _ _ _ (by simpa using hsz) hcl' hcnt' ⟨don', rest', F', V', pos', Aw', H', μ', ?_⟩
        rw [hadd]; exact s'

/-- A statement whose order is drawn. -/
theorem draw_sound (hm : P.follows .mixedOrders = true) (hvk : vok ops pl = true) (hok : opsOk N ops.toList = true) {Q : Exit → Act → World → Prop} (hQ : ∀ ρ H μ a w, K ρ H → St N μ0 H0 w0 ρ H μ a w → Q .normal a w)
    {id : Nat} {ρ : Env} {H : MH} {μ : Mu} {a : Act} {w : World} (h : vM P ops pl [] ρ H K) (s : St N μ0 H0 w0 ρ H μ a w) : (Code.region id ops true).wp P Q a w := by
  have hv := vok_spec hvk
  refine wp_region_any hm (sim_any (K := K) (pl := pl) (ρ0 := ρ) (μ0 := μ0) (H0 := H0) (w0 := w0) hv hok hQ _ _ _ _ (by simp) ?_ (Nat.le_trans List.countP_le_length (by simp)) ?_)
  · intro i o ho hx
    simp [Array.getD_eq_getD_getElem?, Array.getElem?_replicate] at hx
    split at hx <;> simp at hx
  · have hX : (fun i => (Array.replicate ops.size false).getD i false) = fun _ => false := by
      funext i
      simp [Array.getD_eq_getD_getElem?, Array.getElem?_replicate]
      split <;> rfl
    rw [hX]
    have hρ : ∀ V Y, (∀ i, Y i = false) → ρof ops V Y ρ = ρ := by
      intro V Y hY
      funext t
      unfold ρof
      cases wr ops t with
      | none => rfl
      | some j => simp [hY j]
    refine ⟨[], pl, [], fun _ => .lit undef, fun _ => 0, fun _ => false, H, μ, by simp, ?_, fun i hi => by simp at hi, fun i hi => by simp at hi, ?_, s.sz, s.df, ?_, ?_, fun p i L q o hd => by simp at hd, fun i j hi => by simp at hi, fun i hi => by simp at hi⟩
    · rw [hρ _ _ (fun i => by simp [mem])]; exact h
    · rw [hρ _ _ (fun _ => rfl)]; exact s.tm
    · exact s.rel.heap rfl
    · exact s.ext.trans (Ext.heap rfl)

end
end Go.Proofs.Ytojppdcbnpinbaa.M
