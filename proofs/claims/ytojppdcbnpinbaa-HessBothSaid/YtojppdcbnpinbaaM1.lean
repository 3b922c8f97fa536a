/- The small machine, first part: its values and memory, and what it means that the real machine's memory stands for them. -/
import Derived.Orders
import Derived.LoopN
import Derived.Laws.Sem
import Derived.Laws.Cells
set_option linter.unusedSimpArgs false
set_option linter.unusedVariables false
namespace Go.Proofs.Ytojppdcbnpinbaa.M
open Go

inductive MV where
  | lit (v : Value)
  | ptr (p o : Nat)
  | slice (p o n c z : Nat)
  | agg (vs : List MV)
  | tup (vs : List MV)
  | fn (f : Fn) (a b : List MV)

instance : Inhabited MV := ⟨.lit undef⟩

structure Loc where
  b : Nat
  off : Nat
  ext : Nat

abbrev Mu := Nat → Option Loc

def loc (μ : Mu) (p o : Nat) : Option Addr := (μ p).map fun l => ⟨l.b, l.off + o, none⟩

mutual
def conc (μ : Mu) : MV → Value
  | .lit v => v
  | .ptr p o => .pointer (loc μ p o)
  | .slice p o n c _ => .slice (loc μ p o) n c
  | .agg vs => .agg (concs μ vs).toArray
  | .tup vs => .tuple (concs μ vs).toArray
  | .fn f a b => .func f (concs μ a).toArray (concs μ b).toArray
def concs (μ : Mu) : List MV → List Value
  | [] => []
  | v :: vs => conc μ v :: concs μ vs
end

mutual
def Ok (μ : Mu) : MV → Prop
  | .lit _ => True
  | .ptr p _ => ∃ l, μ p = some l
  | .slice p o n c z => n ≤ c ∧ ∃ l, μ p = some l ∧ o + c * z ≤ l.ext
  | .agg vs => Oks μ vs
  | .tup vs => Oks μ vs
  | .fn _ a b => Oks μ a ∧ Oks μ b
def Oks (μ : Mu) : List MV → Prop
  | [] => True
  | v :: vs => Ok μ v ∧ Oks μ vs
end

theorem concs_map (μ : Mu) : ∀ vs, concs μ vs = vs.map (conc μ)
  | [] => by simp [concs]
  | v :: vs => by simp [concs, concs_map μ vs]

theorem oks_iff (μ : Mu) : ∀ vs, Oks μ vs ↔ ∀ v ∈ vs, Ok μ v
  | [] => by simp [Oks]
  | v :: vs => by simp [Oks, oks_iff μ vs]

def Mle (μ μ' : Mu) : Prop := ∀ p l, μ p = some l → μ' p = some l
theorem Mle.refl (μ : Mu) : Mle μ μ := fun _ _ h => h
theorem Mle.trans {a b c : Mu} (h : Mle a b) (h' : Mle b c) : Mle a c := fun p l x => h' p l (h p l x)

mutual
theorem ok_mono {μ μ' : Mu} (h : Mle μ μ') : ∀ v, Ok μ v → Ok μ' v ∧ conc μ' v = conc μ v
  | .lit _, _ => by simp [Ok, conc]
  | .ptr p o, hv => by
    obtain ⟨l, hl⟩ := by simpa [Ok] using hv
    simp [Ok, conc, loc, hl, h p l hl]
  | .slice p o n c z, hv => by
    obtain ⟨hn, l, hl, he⟩ := by simpa [Ok] using hv
    simp [Ok, conc, loc, hl, h p l hl, hn, he]
  | .agg vs, hv => by
    have := oks_mono h vs (by simpa [Ok] using hv)
    simp [Ok, conc, this.1, this.2]
  | .tup vs, hv => by
    have := oks_mono h vs (by simpa [Ok] using hv)
    simp [Ok, conc, this.1, this.2]
  | .fn f a b, hv => by
    have hv : Oks μ a ∧ Oks μ b := by simpa [Ok] using hv
    have h1 := oks_mono h a hv.1
    have h2 := oks_mono h b hv.2
    simp [Ok, conc, h1.1, h1.2, h2.1, h2.2]
theorem oks_mono {μ μ' : Mu} (h : Mle μ μ') : ∀ vs, Oks μ vs → Oks μ' vs ∧ concs μ' vs = concs μ vs
  | [], _ => by simp [Oks, concs]
  | v :: vs, hv => by
    have hv : Ok μ v ∧ Oks μ vs := by simpa [Oks] using hv
    have h1 := ok_mono h v hv.1
    have h2 := oks_mono h vs hv.2
    simp [Oks, concs, h1.1, h1.2, h2.1, h2.2]
end

structure MO where
  cells : List MV
  rw : Bool

abbrev MH := List (Option MO)

/-- The object at a number, if it lives. -/
def hget (H : MH) (p : Nat) : Option MO := (H[p]?).join

def ObjAt (μ : Mu) (w : World) (l : Loc) (o : MO) : Prop :=
  ∃ cs t fz, w.heap[l.b]? = some (.cells cs t fz) ∧ l.off + l.ext ≤ cs.size ∧ o.cells.length ≤ l.ext ∧ (o.rw = true → fz = (0, 0)) ∧
    ∀ i v, o.cells[i]? = some v → Ok μ v ∧ cs[l.off + i]? = some (conc μ v)

structure Rel (μ : Mu) (H : MH) (w : World) : Prop where
  bound : ∀ p l, μ p = some l → p < H.length
  obj : ∀ p l o, μ p = some l → hget H p = some o → ObjAt μ w l o
  inj : ∀ p q l l' o o', μ p = some l → μ q = some l' → hget H p = some o → hget H q = some o' → o.rw = true → p ≠ q → l.b ≠ l'.b

/-- Block b may be written. -/
def Owned (μ : Mu) (H : MH) (b : Nat) : Prop := ∃ p l o, μ p = some l ∧ hget H p = some o ∧ o.rw = true ∧ l.b = b

/-- What no operation of the small machine turns. -/
structure Same (w w' : World) : Prop where
  os : w'.os = w.os
  tape : w'.tape = w.tape
  output : w'.output = w.output
theorem Same.refl (w : World) : Same w w := ⟨rfl, rfl, rfl⟩
theorem Same.trans {a b c : World} (h : Same a b) (h' : Same b c) : Same a c := ⟨h'.os.trans h.os, h'.tape.trans h.tape, h'.output.trans h.output⟩

structure Ext (μ : Mu) (H : MH) (w : World) (μ' : Mu) (H' : MH) (w' : World) : Prop where
  mono : Mle μ μ'
  new : ∀ p l, μ' p = some l → μ p = some l ∨ H.length ≤ p
  hlen : H.length ≤ H'.length
  size : w.heap.size ≤ w'.heap.size
  owned : ∀ b, Owned μ' H' b → b < w.heap.size → Owned μ H b
  frame : ∀ b, b < w.heap.size → ¬ Owned μ H b → w'.heap[b]? = w.heap[b]?
  same : Same w w'

theorem Ext.refl (μ : Mu) (H : MH) (w : World) : Ext μ H w μ H w :=
  ⟨Mle.refl μ, fun _ _ h => .inl h, Nat.le_refl _, Nat.le_refl _, fun _ h _ => h, fun _ _ _ => rfl, .refl w⟩

theorem Ext.trans {μ H w μ1 H1 w1 μ2 H2 w2} (h : Ext μ H w μ1 H1 w1) (h' : Ext μ1 H1 w1 μ2 H2 w2) : Ext μ H w μ2 H2 w2 where
  mono := h.mono.trans h'.mono
  new p l hp := by
    rcases h'.new p l hp with h1 | h1
    · exact h.new p l h1
    · exact .inr (Nat.le_trans h.hlen h1)
  hlen := Nat.le_trans h.hlen h'.hlen
  size := Nat.le_trans h.size h'.size
  owned b hb hlt := h.owned b (h'.owned b hb (Nat.lt_of_lt_of_le hlt h.size)) hlt
  frame b hlt hn := by
    rw [h'.frame b (Nat.lt_of_lt_of_le hlt h.size) (fun ho => hn (h.owned b ho hlt)), h.frame b hlt hn]
  same := h.same.trans h'.same

/-- The draw of an order changes no memory. -/
theorem Rel.heap {μ H w w'} (h : Rel μ H w) (hw : w'.heap = w.heap) : Rel μ H w' :=
  ⟨h.bound, fun p l o hp ho => by
    obtain ⟨cs, t, fz, h1, h2⟩ := h.obj p l o hp ho
    exact ⟨cs, t, fz, by rw [hw]; exact h1, h2⟩, h.inj⟩

theorem Ext.heap {μ H w w'} (hw : w'.heap = w.heap) (hs : Same w w' := by exact ⟨rfl, rfl, rfl⟩) : Ext μ H w μ H w' :=
  ⟨Mle.refl μ, fun _ _ h => .inl h, Nat.le_refl _, by rw [hw]; exact Nat.le_refl _, fun _ h _ => h, fun _ _ _ => by rw [hw], hs⟩

theorem hget_lt {H : MH} {p : Nat} {o : MO} (h : hget H p = some o) : p < H.length := by
  unfold hget at h
  rcases Nat.lt_or_ge p H.length with h' | h'
  · exact h'
  · simp [List.getElem?_eq_none h'] at h

theorem ObjAt.lt {μ w l o} (h : ObjAt μ w l o) : l.b < w.heap.size := by
  obtain ⟨cs, t, fz, h1, _⟩ := h
  exact (Array.getElem?_eq_some_iff.1 h1).1

theorem ObjAt.mono {μ μ' w w' l o} (h : ObjAt μ w l o) (hm : Mle μ μ') (hw : w'.heap[l.b]? = w.heap[l.b]?) : ObjAt μ' w' l o := by
  obtain ⟨cs, t, fz, h1, h2, h3, h5, h6⟩ := h
  refine ⟨cs, t, fz, by rw [hw]; exact h1, h2, h3, h5, fun i v hv => ?_⟩
  obtain ⟨ho, hc⟩ := h6 i v hv
  obtain ⟨ho', hc'⟩ := ok_mono hm v ho
  exact ⟨ho', by rw [hc']; exact hc⟩

/-! ### A new object -/

def bind1 (μ : Mu) (p : Nat) (l : Loc) : Mu := fun q => if q = p then some l else μ q

theorem bind1_le {μ : Mu} {p : Nat} {l : Loc} (h : μ p = none) : Mle μ (bind1 μ p l) := by
  intro q l' hq
  unfold bind1
  split
  · rename_i he; subst he; rw [h] at hq; cases hq
  · exact hq

/-- A block is laid for an object that stands in H already (or stands there from now on) and is not bound yet. -/
theorem Rel.bind {μ : Mu} {H : MH} {w : World} (h : Rel μ H w) {p : Nat} {o : MO} (hp : μ p = none) (ho : hget H p = some o)
    {cs : Array Value} {t : TypeId} (hcs : cs = (concs μ o.cells).toArray) (hok : Oks μ o.cells) {w' : World} (hw : w'.heap = w.heap.push (.cells cs t (0, 0))) :
    Rel (bind1 μ p ⟨w.heap.size, 0, o.cells.length⟩) H w' := by
  have hle : Mle μ (bind1 μ p ⟨w.heap.size, 0, o.cells.length⟩) := bind1_le hp
  have hold : ∀ b, b < w.heap.size → w'.heap[b]? = w.heap[b]? := fun b hb => by
    rw [hw, Array.getElem?_push]; simp [Nat.ne_of_lt hb]
  refine ⟨fun q l hq => ?_, fun q l o' hq ho' => ?_, fun q r l l' o1 o2 hq hr h1 h2 hrw hne => ?_⟩
  · unfold bind1 at hq
    split at hq
    · rename_i he; subst he; exact hget_lt ho
    · exact h.bound q l hq
  · unfold bind1 at hq
    split at hq
    · rename_i he
      subst he
      cases hq
      rw [ho] at ho'
      cases ho'
      subst hcs
      refine ⟨(concs μ o.cells).toArray, t, (0, 0), by rw [hw]; simp, by simp [concs_map], Nat.le_refl _, fun _ => rfl, fun i v hv => ?_⟩
      have hv' : v ∈ o.cells := List.mem_of_getElem? hv
      have := ok_mono hle v ((oks_iff μ _).1 hok v hv')
      refine ⟨this.1, ?_⟩
      rw [this.2]
      simp [concs_map, hv]
    · have := h.obj q l o' hq ho'
      exact this.mono hle (hold _ this.lt)
  · unfold bind1 at hq hr
    split at hq
    · rename_i he
      subst he
      split at hr
      · rename_i he'; exact absurd he'.symm hne
      · cases hq
        have := (h.obj r l' o2 hr h2).lt
        exact Nat.ne_of_gt this
    · split at hr
      · cases hr
        have := (h.obj q l o1 hq h1).lt
        exact Nat.ne_of_lt this
      · exact h.inj q r l l' o1 o2 hq hr h1 h2 hrw hne

/-- H grows by an object that nothing is bound to. -/
theorem hget_append {H : MH} {x : Option MO} {p : Nat} (hp : p < H.length) : hget (H ++ [x]) p = hget H p := by
  unfold hget; rw [List.getElem?_append_left hp]
theorem hget_append_new {H : MH} {o : MO} : hget (H ++ [some o]) H.length = some o := by
  unfold hget; simp

theorem Rel.grow {μ H w} (h : Rel μ H w) (x : Option MO) : Rel μ (H ++ [x]) w :=
  ⟨fun p l hp => by have := h.bound p l hp; simp; omega,
   fun p l o hp ho => h.obj p l o hp (by rw [hget_append (h.bound p l hp)] at ho; exact ho),
   fun p q l l' o o' hp hq ho ho' => h.inj p q l l' o o' hp hq (by rw [hget_append (h.bound p l hp)] at ho; exact ho) (by rw [hget_append (h.bound q l' hq)] at ho'; exact ho')⟩

theorem Rel.unbound {μ H w} (h : Rel μ H w) {p : Nat} (hp : H.length ≤ p) : μ p = none := by
  cases hq : μ p with
  | none => rfl
  | some l => exact absurd (h.bound p l hq) (Nat.not_lt.2 hp)

/-- What binding a new block is, seen from an earlier state. -/
theorem Ext.bind {μ0 : Mu} {H0 : MH} {w0 : World} {μ : Mu} {H : MH} {w : World} (h : Ext μ0 H0 w0 μ H w) {p : Nat} {l : Loc} (hp : μ p = none) (hlen : H0.length ≤ p)
    {x : Obj} (hl : l.b = w.heap.size) {w' : World} (hw : w'.heap = w.heap.push x) (hs : Same w w' := by exact ⟨rfl, rfl, rfl⟩) : Ext μ0 H0 w0 (bind1 μ p l) H w' where
  same := h.same.trans hs
  mono := h.mono.trans (bind1_le hp)
  new q l' hq := by
    unfold bind1 at hq
    split at hq
    · rename_i he; subst he; exact .inr hlen
    · exact h.new q l' hq
  hlen := h.hlen
  size := by rw [hw]; have := h.size; simp; omega
  owned b hb hlt := by
    obtain ⟨q, l', o, hq, ho, hrw, hb'⟩ := hb
    unfold bind1 at hq
    split at hq
    · cases hq
      have := h.size
      omega
    · exact h.owned b ⟨q, l', o, hq, ho, hrw, hb'⟩ hlt
  frame b hlt hn := by
    have := h.size
    rw [hw, Array.getElem?_push, if_neg (by omega), h.frame b hlt hn]

theorem Ext.grow {μ0 H0 w0 μ H w} (h : Ext μ0 H0 w0 μ H w) (hr : Rel μ H w) (x : Option MO) : Ext μ0 H0 w0 μ (H ++ [x]) w :=
  ⟨h.mono, h.new, by have := h.hlen; simp; omega, h.size,
   fun b hb => h.owned b (by
    obtain ⟨q, l, o, hq, ho, rest⟩ := hb
    exact ⟨q, l, o, hq, by rw [hget_append (hr.bound q l hq)] at ho; exact ho, rest⟩), h.frame, h.same⟩

end Go.Proofs.Ytojppdcbnpinbaa.M
