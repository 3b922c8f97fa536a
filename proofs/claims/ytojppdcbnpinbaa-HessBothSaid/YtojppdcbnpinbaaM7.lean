/- The small machine, seventh part: stores and appends. -/
import Derived.Test.YtojppdcbnpinbaaM6
set_option linter.unusedSimpArgs false
set_option linter.unusedVariables false
namespace Go.Proofs.Ytojppdcbnpinbaa.M
open Go

theorem hget_set_same {H : MH} {p : Nat} (h : p < H.length) (x : Option MO) : hget (H.set p x) p = x := by
  unfold hget; rw [List.getElem?_set_self h]; rfl
theorem hget_set_ne {H : MH} {p q : Nat} (h : p ≠ q) (x : Option MO) : hget (H.set p x) q = hget H q := by
  unfold hget; rw [List.getElem?_set_ne h]

theorem one_conc {μ : Mu} {v : MV} (h : one v = true) : (conc μ v).oneCell' = true := by
  unfold one at h
  split at h <;> first | (cases h; done) | skip
  cases v with
  | lit v => cases v <;> simp_all [conc, Value.oneCell']
  | agg vs => simp_all
  | tup vs => simp_all
  | _ => simp [conc, Value.oneCell']

/-- One cell is written. -/
theorem Rel.store {μ H w} (h : Rel μ H w) {P : Program} {p : Nat} {l : Loc} {ob : MO} (hl : μ p = some l) (ho : hget H p = some ob) (hrw : ob.rw = true) {i : Nat} (hi : i < ob.cells.length)
    {v : MV} (hv : Ok μ v) (h1 : one v = true) :
    ∃ w', (Go.store ⟨l.b, l.off + i, none⟩ (conc μ v)).run P w = .ok () w' ∧ Rel μ (H.set p (some ⟨ob.cells.set i v, true⟩)) w' ∧ Ext μ H w μ (H.set p (some ⟨ob.cells.set i v, true⟩)) w' := by
  obtain ⟨cs, t, fz, hb, hsz, hlen, hfz, hcell⟩ := h.obj p l ob hl ho
  obtain rfl := hfz hrw
  have hc : w.cell? ⟨l.b, l.off + i, none⟩ = some (conc μ (ob.cells[i])) := (h.cell hl ho (List.getElem?_eq_getElem hi)).2
  have hf : w.frozen? ⟨l.b, l.off + i, none⟩ = false := by simp [World.frozen?, hb]
  refine ⟨w.setCell ⟨l.b, l.off + i, none⟩ (conc μ v), ?_, ?_, ?_⟩
  · rw [run_store P w _ _ _ (one_conc h1), hc]
    simp [hf]
  · have hplt := hget_lt ho
    have hheap : ∀ b, (w.setCell ⟨l.b, l.off + i, none⟩ (conc μ v)).heap[b]? = if l.b = b then some (.cells (cs.setIfInBounds (l.off + i) (conc μ v)) t (0, 0)) else w.heap[b]? := by
      intro b
      simp only [World.setCell, Array.getElem?_modify]
      split
      · rename_i he; subst he; simp [hb]
      · rfl
    refine ⟨fun q l' hq => by rw [List.length_set]; exact h.bound q l' hq, fun q l' o' hq ho' => ?_, fun q r l1 l2 o1 o2 hq hr h1' h2' hrw' hne => ?_⟩
    · by_cases hpq : p = q
      · subst hpq
        rw [hget_set_same hplt] at ho'
        cases ho'
        rw [hl] at hq
        cases hq
        refine ⟨cs.setIfInBounds (l.off + i) (conc μ v), t, (0, 0), by rw [hheap]; simp, by simpa using hsz, by simpa using hlen, fun _ => rfl, fun j u hu => ?_⟩
        rw [List.getElem?_set] at hu
        split at hu
        · rename_i hij
          subst hij
          simp only [hi, if_true, Option.some.injEq] at hu
          subst hu
          refine ⟨hv, ?_⟩
          rw [Array.getElem?_setIfInBounds_self_of_lt (by omega)]
        · rename_i hij
          obtain ⟨hu1, hu2⟩ := hcell j u hu
          exact ⟨hu1, by rw [Array.getElem?_setIfInBounds_ne (by omega)]; exact hu2⟩
      · rw [hget_set_ne hpq] at ho'
        have := h.inj p q l l' ob o' hl hq ho ho' hrw hpq
        exact (h.obj q l' o' hq ho').mono (Mle.refl μ) (by rw [hheap, if_neg this])
    · by_cases hpq : p = q
      · subst hpq
        rw [hget_set_ne hne] at h2'
        rw [hl] at hq
        cases hq
        exact h.inj p r l l2 ob o2 hl hr ho h2' hrw hne
      · rw [hget_set_ne hpq] at h1'
        by_cases hpr : p = r
        · subst hpr
          rw [hl] at hr
          cases hr
          exact h.inj q p l1 l o1 ob hq hl h1' ho hrw' hne
        · rw [hget_set_ne hpr] at h2'
          exact h.inj q r l1 l2 o1 o2 hq hr h1' h2' hrw' hne
  · refine ⟨Mle.refl μ, fun _ _ h => .inl h, by simp, by simp [World.setCell], fun b hb' hlt => ?_, fun b hlt hn => ?_, ⟨rfl, rfl, rfl⟩⟩
    · obtain ⟨q, l', o, hq, hoq, hrw', hbb⟩ := hb'
      by_cases hpq : p = q
      · subst hpq
        rw [hl] at hq
        cases hq
        exact ⟨p, l, ob, hl, ho, hrw, hbb⟩
      · rw [hget_set_ne hpq] at hoq
        exact ⟨q, l', o, hq, hoq, hrw', hbb⟩
    · have : l.b ≠ b := fun he => hn ⟨p, l, ob, hl, ho, hrw, he⟩
      simp [World.setCell, Array.getElem?_modify, this]

def setL : List MV → Nat → List MV → List MV
  | cs, _, [] => cs
  | cs, o, v :: vs => setL (cs.set o v) (o + 1) vs

theorem setL_length : ∀ (vs : List MV) (cs : List MV) (o : Nat), (setL cs o vs).length = cs.length
  | [], _, _ => rfl
  | v :: vs, cs, o => by simp [setL, setL_length vs]

/-- Several cells are written. -/
theorem Rel.stores {P : Program} {μ : Mu} {p : Nat} {l : Loc} (hl : μ p = some l) : ∀ (vs : List MV) (H : MH) (w : World) (o i : Nat) (ob : MO), Rel μ H w → hget H p = some ob → ob.rw = true →
    o + i + vs.length ≤ ob.cells.length → Oks μ vs → vs.all one = true →
    ∃ w', (storeCells ⟨l.b, l.off + o, none⟩ (concs μ vs) i).run P w = .ok () w' ∧ Rel μ (H.set p (some ⟨setL ob.cells (o + i) vs, true⟩)) w' ∧ Ext μ H w μ (H.set p (some ⟨setL ob.cells (o + i) vs, true⟩)) w'
  | [], H, w, o, i, ob, h, ho, hrw, hlen, hok, h1 => by
    have hH : H.set p (some ⟨ob.cells, true⟩) = H := by
      have : ob = ⟨ob.cells, true⟩ := by cases ob; simp_all
      rw [← this]
      unfold hget at ho
      apply List.ext_getElem?
      intro j
      rw [List.getElem?_set]
      split
      · rename_i hj
        subst hj
        split
        · cases hp : H[p]? with
          | none => rw [hp] at ho; simp at ho
          | some x => rw [hp] at ho; simp at ho; rw [ho]
        · rename_i hlt
          simp [List.getElem?_eq_none (Nat.le_of_not_lt hlt)] at ho
      · rfl
    simp only [setL, hH]
    exact ⟨w, by simp [storeCells, concs], h, Ext.refl μ H w⟩
  | v :: vs, H, w, o, i, ob, h, ho, hrw, hlen, hok, h1 => by
    simp only [List.length_cons] at hlen
    have hok' : Ok μ v ∧ Oks μ vs := by simpa [Oks] using hok
    simp only [List.all_cons, Bool.and_eq_true] at h1
    obtain ⟨w1, hs1, hr1, he1⟩ := h.store (P := P) hl ho hrw (i := o + i) (by omega) hok'.1 h1.1
    have hplt := hget_lt ho
    obtain ⟨w2, hs2, hr2, he2⟩ := Rel.stores (P := P) hl vs _ w1 o (i + 1) ⟨ob.cells.set (o + i) v, true⟩ hr1 (hget_set_same hplt _) rfl (by simp; omega) hok'.2 h1.2
    rw [List.set_set] at hr2 he2
    refine ⟨w2, ?_, hr2, he1.trans he2⟩
    have hadd : (⟨l.b, l.off + o, none⟩ : Addr).add i = ⟨l.b, l.off + (o + i), none⟩ := by rw [Addr.add_lit]; simp [Nat.add_assoc]
    simp only [storeCells, concs, Sem.run_bind, hadd, hs1, Result.andThen_ok]
    exact hs2

def storeV (P : Program) (t : TypeId) (x v : MV) (H : MH) : Option MH :=
  match x with
  | .ptr p o => match hget H p, (ty P t).sz with
    | some ob, some n =>
      if ob.rw = true ∧ (cellsM v).length = n ∧ (cellsM v).all one = true ∧ o + n ≤ ob.cells.length then some (H.set p (some ⟨setL ob.cells o (cellsM v), true⟩)) else none
    | _, _ => none
  | _ => none

theorem store_sound {P : Program} {t : TypeId} {x y : Operand} {H H' : MH} {ρ : Env} (h : storeV P t (ev ρ x) (ev ρ y) H = some H') {μ : Mu} {a : Act} {w : World} (ht : Tm μ ρ a) (hr : Rel μ H w)
    (o : Oper) (ho : o.op = .store t x y) : ∃ w', (execOp a.eval o).run P w = .ok .skip w' ∧ Rel μ H' w' ∧ Ext μ H w μ H' w' := by
  obtain ⟨dst, op, typ, pos, aft, grd⟩ := o
  cases ho
  have hx := ht.ev x
  have hy := ht.ev y
  unfold storeV at h
  split at h
  · rename_i p q hv
    rw [hv] at hx
    obtain ⟨l, hl⟩ := by simpa [Ok] using hx.2
    split at h
    · rename_i ob n hob hn
      split at h
      · rename_i hc
        cases h
        obtain ⟨hrw, hlen, hone, hle⟩ := hc
        have hsz : ∃ i, P.info? t = some i ∧ i.size = n := by
          have : (P.info? t).map (·.size) = some n := hn
          simpa using this
        obtain ⟨inf, hinf, rfl⟩ := hsz
        obtain ⟨w', hs, hr', he⟩ := Rel.stores (P := P) hl (cellsM (ev ρ y)) H w q 0 ob hr hob hrw (by omega) (ok_cells hy.2) hone
        refine ⟨w', ?_, hr', he⟩
        have hxe : a.eval x = .pointer (some ⟨l.b, l.off + q, none⟩) := by rw [← hx.1]; simp [conc, loc_some hl]
        have hce : (a.eval y).cells = (concs μ (cellsM (ev ρ y))).toArray := by rw [← hy.1, cells_conc]
        have hsl : (concs μ (cellsM (ev ρ y))).length = inf.size := by rw [concs_map, List.length_map]; exact hlen
        simp [execOp, Instr.storeAt, hxe, Instr.sureAddr, storeVar, run_sizeOf hinf, hce, hsl, hs]
      · cases h
    · cases h
  · cases h

end Go.Proofs.Ytojppdcbnpinbaa.M
