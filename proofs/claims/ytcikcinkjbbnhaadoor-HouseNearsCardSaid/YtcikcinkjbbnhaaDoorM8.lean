/- The small machine, first part: its values and memory, and what it means that the real machine's memory stands for them. -/
import Derived.Orders
import Derived.LoopN
import Derived.Laws.Sem
import Derived.Laws.Cells
import Derived.Laws.Entries
import Derived.Laws.StructEq
set_option linter.unusedSimpArgs false
set_option linter.unusedVariables false
namespace Go.Proofs.YtcikcinkjbbnhaaDoor.M
open Go

inductive MV where
  | lit (v : Value)
  | ptr (p o : Nat)
  | slice (p o n c z : Nat)
  | agg (vs : List MV)
  | tup (vs : List MV)
  | fn (f : Fn) (a b : List MV)

instance : Inhabited MV := ⟨.lit undef⟩

structure Loc where
  b : Nat
  off : Nat
  ext : Nat

abbrev Mu := Nat → Option Loc

def loc (μ : Mu) (p o : Nat) : Option Addr := (μ p).map fun l => ⟨l.b, l.off + o, none⟩

mutual
def conc (μ : Mu) : MV → Value
  | .lit v => v
  | .ptr p o => .pointer (loc μ p o)
  | .slice p o n c _ => .slice (loc μ p o) n c
  | .agg vs => .agg (concs μ vs).toArray
  | .tup vs => .tuple (concs μ vs).toArray
  | .fn f a b => .func f (concs μ a).toArray (concs μ b).toArray
def concs (μ : Mu) : List MV → List Value
  | [] => []
  | v :: vs => conc μ v :: concs μ vs
end

mutual
def Ok (μ : Mu) : MV → Prop
  | .lit _ => True
  | .ptr p _ => ∃ l, μ p = some l
  | .slice p o n c z => n ≤ c ∧ ∃ l, μ p = some l ∧ o + c * z ≤ l.ext
  | .agg vs => Oks μ vs
  | .tup vs => Oks μ vs
  | .fn _ a b => Oks μ a ∧ Oks μ b
def Oks (μ : Mu) : List MV → Prop
  | [] => True
  | v :: vs => Ok μ v ∧ Oks μ vs
end

theorem concs_map (μ : Mu) : ∀ vs, concs μ vs = vs.map (conc μ)
  | [] => by simp [concs]
  | v :: vs => by simp [concs, concs_map μ vs]

theorem oks_iff (μ : Mu) : ∀ vs, Oks μ vs ↔ ∀ v ∈ vs, Ok μ v
  | [] => by simp [Oks]
  | v :: vs => by simp [Oks, oks_iff μ vs]

def Mle (μ μ' : Mu) : Prop := ∀ p l, μ p = some l → μ' p = some l
theorem Mle.refl (μ : Mu) : Mle μ μ := fun _ _ h => h
theorem Mle.trans {a b c : Mu} (h : Mle a b) (h' : Mle b c) : Mle a c := fun p l x => h' p l (h p l x)

mutual
theorem ok_mono {μ μ' : Mu} (h : Mle μ μ') : ∀ v, Ok μ v → Ok μ' v ∧ conc μ' v = conc μ v
  | .lit _, _ => by simp [Ok, conc]
  | .ptr p o, hv => by
    obtain ⟨l, hl⟩ := by simpa [Ok] using hv
    simp [Ok, conc, loc, hl, h p l hl]
  | .slice p o n c z, hv => by
    obtain ⟨hn, l, hl, he⟩ := by simpa [Ok] using hv
    simp [Ok, conc, loc, hl, h p l hl, hn, he]
  | .agg vs, hv => by
    have := oks_mono h vs (by simpa [Ok] using hv)
    simp [Ok, conc, this.1, this.2]
  | .tup vs, hv => by
    have := oks_mono h vs (by simpa [Ok] using hv)
    simp [Ok, conc, this.1, this.2]
  | .fn f a b, hv => by
    have hv : Oks μ a ∧ Oks μ b := by simpa [Ok] using hv
    have h1 := oks_mono h a hv.1
    have h2 := oks_mono h b hv.2
    simp [Ok, conc, h1.1, h1.2, h2.1, h2.2]
theorem oks_mono {μ μ' : Mu} (h : Mle μ μ') : ∀ vs, Oks μ vs → Oks μ' vs ∧ concs μ' vs = concs μ vs
  | [], _ => by simp [Oks, concs]
  | v :: vs, hv => by
    have hv : Ok μ v ∧ Oks μ vs := by simpa [Oks] using hv
    have h1 := ok_mono h v hv.1
    have h2 := oks_mono h vs hv.2
    simp [Oks, concs, h1.1, h1.2, h2.1, h2.2]
end

structure MO where
  cells : List MV
  rw : Bool

abbrev MH := List (Option MO)

/-- The object at a number, if it lives. -/
def hget (H : MH) (p : Nat) : Option MO := (H[p]?).join

def ObjAt (μ : Mu) (w : World) (l : Loc) (o : MO) : Prop :=
  ∃ cs t fz, w.heap[l.b]? = some (.cells cs t fz) ∧ l.off + l.ext ≤ cs.size ∧ o.cells.length ≤ l.ext ∧ (o.rw = true → fz = (0, 0)) ∧
    ∀ i v, o.cells[i]? = some v → Ok μ v ∧ cs[l.off + i]? = some (conc μ v)

structure Rel (μ : Mu) (H : MH) (w : World) : Prop where
  bound : ∀ p l, μ p = some l → p < H.length
  obj : ∀ p l o, μ p = some l → hget H p = some o → ObjAt μ w l o
  inj : ∀ p q l l' o o', μ p = some l → μ q = some l' → hget H p = some o → hget H q = some o' → o.rw = true → p ≠ q → l.b ≠ l'.b

/-- What stands in the tables that no text writes: block by block. -/
def tabL : List (Nat × List Value) := [(0, [.int .u8 0, .int .u8 1, .int .u8 28, .int .u8 2, .int .u8 29, .int .u8 14, .int .u8 24, .int .u8 3, .int .u8 30, .int .u8 22, .int .u8 20, .int .u8 15, .int .u8 25, .int .u8 17, .int .u8 4, .int .u8 8, .int .u8 31, .int .u8 27, .int .u8 13, .int .u8 23, .int .u8 21, .int .u8 19, .int .u8 16, .int .u8 7, .int .u8 26, .int .u8 12, .int .u8 18, .int .u8 6, .int .u8 11, .int .u8 5, .int .u8 10, .int .u8 9])]
def tabT (b o : Nat) : Option Value := match tabL.find? fun x => Nat.beq x.1 b with
  | some x => x.2[o]?
  | none => none

/-- Block b may be written. -/
def Owned (μ : Mu) (H : MH) (b : Nat) : Prop := ∃ p l o, μ p = some l ∧ hget H p = some o ∧ o.rw = true ∧ l.b = b

/-- What no operation of the small machine turns. -/
structure Same (w w' : World) : Prop where
  os : w'.os = w.os
  tape : w'.tape = w.tape
  output : w'.output = w.output
theorem Same.refl (w : World) : Same w w := ⟨rfl, rfl, rfl⟩
theorem Same.trans {a b c : World} (h : Same a b) (h' : Same b c) : Same a c := ⟨h'.os.trans h.os, h'.tape.trans h.tape, h'.output.trans h.output⟩

structure Ext (μ : Mu) (H : MH) (w : World) (μ' : Mu) (H' : MH) (w' : World) : Prop where
  mono : Mle μ μ'
  new : ∀ p l, μ' p = some l → μ p = some l ∨ H.length ≤ p
  hlen : H.length ≤ H'.length
  size : w.heap.size ≤ w'.heap.size
  owned : ∀ b, Owned μ' H' b → b < w.heap.size → Owned μ H b
  frame : ∀ b, b < w.heap.size → ¬ Owned μ H b → w'.heap[b]? = w.heap[b]?
  same : Same w w'

theorem Ext.refl (μ : Mu) (H : MH) (w : World) : Ext μ H w μ H w :=
  ⟨Mle.refl μ, fun _ _ h => .inl h, Nat.le_refl _, Nat.le_refl _, fun _ h _ => h, fun _ _ _ => rfl, .refl w⟩

theorem Ext.trans {μ H w μ1 H1 w1 μ2 H2 w2} (h : Ext μ H w μ1 H1 w1) (h' : Ext μ1 H1 w1 μ2 H2 w2) : Ext μ H w μ2 H2 w2 where
  mono := h.mono.trans h'.mono
  new p l hp := by
    rcases h'.new p l hp with h1 | h1
    · exact h.new p l h1
    · exact .inr (Nat.le_trans h.hlen h1)
  hlen := Nat.le_trans h.hlen h'.hlen
  size := Nat.le_trans h.size h'.size
  owned b hb hlt := h.owned b (h'.owned b hb (Nat.lt_of_lt_of_le hlt h.size)) hlt
  frame b hlt hn := by
    rw [h'.frame b (Nat.lt_of_lt_of_le hlt h.size) (fun ho => hn (h.owned b ho hlt)), h.frame b hlt hn]
  same := h.same.trans h'.same

/-- The tables stand in the world, and nothing may write them. -/
structure TabIn (μ : Mu) (H : MH) (w : World) : Prop where
  cell : ∀ b o v, tabT b o = some v → w.cell? ⟨b, o, none⟩ = some v
  own : ∀ b o v, tabT b o = some v → ¬ Owned μ H b

theorem cell_lt {w : World} {b o : Nat} {v : Value} (h : w.cell? ⟨b, o, none⟩ = some v) : b < w.heap.size := by
  unfold World.cell? at h
  split at h
  · rename_i hb; exact (Array.getElem?_eq_some_iff.1 hb).1
  · cases h
theorem TabIn.ext {μ H w μ' H' w'} (h : TabIn μ H w) (he : Ext μ H w μ' H' w') : TabIn μ' H' w' where
  cell b o v hv := by
    have hc := h.cell b o v hv
    have := he.frame b (cell_lt hc) (h.own b o v hv)
    unfold World.cell? at hc ⊢
    rw [this]; exact hc
  own b o v hv ho := h.own b o v hv (he.owned b ho (cell_lt (h.cell b o v hv)))

/-- The draw of an order changes no memory. -/
theorem Rel.heap {μ H w w'} (h : Rel μ H w) (hw : w'.heap = w.heap) : Rel μ H w' :=
  ⟨h.bound, fun p l o hp ho => by
    obtain ⟨cs, t, fz, h1, h2⟩ := h.obj p l o hp ho
    exact ⟨cs, t, fz, by rw [hw]; exact h1, h2⟩, h.inj⟩

theorem Ext.heap {μ H w w'} (hw : w'.heap = w.heap) (hs : Same w w' := by exact ⟨rfl, rfl, rfl⟩) : Ext μ H w μ H w' :=
  ⟨Mle.refl μ, fun _ _ h => .inl h, Nat.le_refl _, by rw [hw]; exact Nat.le_refl _, fun _ h _ => h, fun _ _ _ => by rw [hw], hs⟩

theorem hget_lt {H : MH} {p : Nat} {o : MO} (h : hget H p = some o) : p < H.length := by
  unfold hget at h
  rcases Nat.lt_or_ge p H.length with h' | h'
  · exact h'
  · simp [List.getElem?_eq_none h'] at h

theorem ObjAt.lt {μ w l o} (h : ObjAt μ w l o) : l.b < w.heap.size := by
  obtain ⟨cs, t, fz, h1, _⟩ := h
  exact (Array.getElem?_eq_some_iff.1 h1).1

theorem ObjAt.mono {μ μ' w w' l o} (h : ObjAt μ w l o) (hm : Mle μ μ') (hw : w'.heap[l.b]? = w.heap[l.b]?) : ObjAt μ' w' l o := by
  obtain ⟨cs, t, fz, h1, h2, h3, h5, h6⟩ := h
  refine ⟨cs, t, fz, by rw [hw]; exact h1, h2, h3, h5, fun i v hv => ?_⟩
  obtain ⟨ho, hc⟩ := h6 i v hv
  obtain ⟨ho', hc'⟩ := ok_mono hm v ho
  exact ⟨ho', by rw [hc']; exact hc⟩

/-! ### A new object -/

def bind1 (μ : Mu) (p : Nat) (l : Loc) : Mu := fun q => if q = p then some l else μ q

theorem bind1_le {μ : Mu} {p : Nat} {l : Loc} (h : μ p = none) : Mle μ (bind1 μ p l) := by
  intro q l' hq
  unfold bind1
  split
  · rename_i he; subst he; rw [h] at hq; cases hq
  · exact hq

/-- A block is laid for an object that stands in H already (or stands there from now on) and is not bound yet. -/
theorem Rel.bind {μ : Mu} {H : MH} {w : World} (h : Rel μ H w) {p : Nat} {o : MO} (hp : μ p = none) (ho : hget H p = some o)
    {cs : Array Value} {t : TypeId} (hcs : cs = (concs μ o.cells).toArray) (hok : Oks μ o.cells) {w' : World} (hw : w'.heap = w.heap.push (.cells cs t (0, 0))) :
    Rel (bind1 μ p ⟨w.heap.size, 0, o.cells.length⟩) H w' := by
  have hle : Mle μ (bind1 μ p ⟨w.heap.size, 0, o.cells.length⟩) := bind1_le hp
  have hold : ∀ b, b < w.heap.size → w'.heap[b]? = w.heap[b]? := fun b hb => by
    rw [hw, Array.getElem?_push]; simp [Nat.ne_of_lt hb]
  refine ⟨fun q l hq => ?_, fun q l o' hq ho' => ?_, fun q r l l' o1 o2 hq hr h1 h2 hrw hne => ?_⟩
  · unfold bind1 at hq
    split at hq
    · rename_i he; subst he; exact hget_lt ho
    · exact h.bound q l hq
  · unfold bind1 at hq
    split at hq
    · rename_i he
      subst he
      cases hq
      rw [ho] at ho'
      cases ho'
      subst hcs
      refine ⟨(concs μ o.cells).toArray, t, (0, 0), by rw [hw]; simp, by simp [concs_map], Nat.le_refl _, fun _ => rfl, fun i v hv => ?_⟩
      have hv' : v ∈ o.cells := List.mem_of_getElem? hv
      have := ok_mono hle v ((oks_iff μ _).1 hok v hv')
      refine ⟨this.1, ?_⟩
      rw [this.2]
      simp [concs_map, hv]
    · have := h.obj q l o' hq ho'
      exact this.mono hle (hold _ this.lt)
  · unfold bind1 at hq hr
    split at hq
    · rename_i he
      subst he
      split at hr
      · rename_i he'; exact absurd he'.symm hne
      · cases hq
        have := (h.obj r l' o2 hr h2).lt
        exact Nat.ne_of_gt this
    · split at hr
      · cases hr
        have := (h.obj q l o1 hq h1).lt
        exact Nat.ne_of_lt this
      · exact h.inj q r l l' o1 o2 hq hr h1 h2 hrw hne

/-- H grows by an object that nothing is bound to. -/
theorem hget_append {H : MH} {x : Option MO} {p : Nat} (hp : p < H.length) : hget (H ++ [x]) p = hget H p := by
  unfold hget; rw [List.getElem?_append_left hp]
theorem hget_append_new {H : MH} {o : MO} : hget (H ++ [some o]) H.length = some o := by
  unfold hget; simp

theorem Rel.grow {μ H w} (h : Rel μ H w) (x : Option MO) : Rel μ (H ++ [x]) w :=
  ⟨fun p l hp => by have := h.bound p l hp; simp; omega,
   fun p l o hp ho => h.obj p l o hp (by rw [hget_append (h.bound p l hp)] at ho; exact ho),
   fun p q l l' o o' hp hq ho ho' => h.inj p q l l' o o' hp hq (by rw [hget_append (h.bound p l hp)] at ho; exact ho) (by rw [hget_append (h.bound q l' hq)] at ho'; exact ho')⟩

theorem Rel.unbound {μ H w} (h : Rel μ H w) {p : Nat} (hp : H.length ≤ p) : μ p = none := by
  cases hq : μ p with
  | none => rfl
  | some l => exact absurd (h.bound p l hq) (Nat.not_lt.2 hp)

/-- What binding a new block is, seen from an earlier state. -/
theorem Ext.bind {μ0 : Mu} {H0 : MH} {w0 : World} {μ : Mu} {H : MH} {w : World} (h : Ext μ0 H0 w0 μ H w) {p : Nat} {l : Loc} (hp : μ p = none) (hlen : H0.length ≤ p)
    {x : Obj} (hl : l.b = w.heap.size) {w' : World} (hw : w'.heap = w.heap.push x) (hs : Same w w' := by exact ⟨rfl, rfl, rfl⟩) : Ext μ0 H0 w0 (bind1 μ p l) H w' where
  same := h.same.trans hs
  mono := h.mono.trans (bind1_le hp)
  new q l' hq := by
    unfold bind1 at hq
    split at hq
    · rename_i he; subst he; exact .inr hlen
    · exact h.new q l' hq
  hlen := h.hlen
  size := by rw [hw]; have := h.size; simp; omega
  owned b hb hlt := by
    obtain ⟨q, l', o, hq, ho, hrw, hb'⟩ := hb
    unfold bind1 at hq
    split at hq
    · cases hq
      have := h.size
      omega
    · exact h.owned b ⟨q, l', o, hq, ho, hrw, hb'⟩ hlt
  frame b hlt hn := by
    have := h.size
    rw [hw, Array.getElem?_push, if_neg (by omega), h.frame b hlt hn]

theorem Ext.grow {μ0 H0 w0 μ H w} (h : Ext μ0 H0 w0 μ H w) (hr : Rel μ H w) (x : Option MO) : Ext μ0 H0 w0 μ (H ++ [x]) w :=
  ⟨h.mono, h.new, by have := h.hlen; simp; omega, h.size,
   fun b hb => h.owned b (by
    obtain ⟨q, l, o, hq, ho, rest⟩ := hb
    exact ⟨q, l, o, hq, by rw [hget_append (hr.bound q l hq)] at ho; exact ho, rest⟩), h.frame, h.same⟩

end Go.Proofs.YtcikcinkjbbnhaaDoor.M

/- The small machine, second part: what its operations answer, and that the real ones answer the same. -/
set_option linter.unusedSimpArgs false
set_option linter.unusedVariables false
namespace Go.Proofs.YtcikcinkjbbnhaaDoor.M
open Go

/-! ### Types, as the operations ask them -/

inductive TK where
  | struct (fs : List (Nat × Nat))
  | slice (esz : Nat) (ebytes : Nat) (ezero : Option (List Value)) (isInt : Bool)
  | array (n esz : Nat)
  | string
  | int (k : IntKind)
  | bool
  | ptr
  | other
  | none

structure Ty where
  sz : Option Nat
  zero : Option (List Value)
  known : Bool
  agg : Bool
  k : TK

def szOf (P : Program) (t : TypeId) : Nat := ((P.info? t).map (·.size)).getD 0

def ty (P : Program) (t : TypeId) : Ty where
  sz := (P.info? t).map (·.size)
  zero := ((P.info? t).bind (·.zero)).map (·.cells.toList)
  known := (P.underlying t).isSome
  agg := match P.underlying t with
    | some (.struct _) | some (.array _ _) => true
    | _ => false
  k := match P.underlying t with
    | some (.struct fs) => if fs.all (fun f => (P.info? f.type).isSome) then .struct (fs.toList.map fun f => (f.offset, szOf P f.type)) else .other
    | some (.slice e) => match P.info? e with
      | some i => .slice i.size i.bytes (i.zero.map (·.cells.toList)) ((P.underlying e) matches some (.int _))
      | _ => .other
    | some (.array n e) => match P.info? e with
      | some i => .array n i.size
      | _ => .other
    | some .string => .string
    | some (.int k) => .int k
    | some .bool => .bool
    | some (.pointer _) => .ptr
    | some _ => .other
    | _ => .none

/-! ### Temporaries -/

abbrev Env := Nat → MV
def put (ρ : Env) (d : Option Tmp) (v : MV) : Env := match d with
  | some d => fun t => if t = d then v else ρ t
  | none => ρ

def constM : Value → MV
  | .agg cs => .agg (cs.toList.map .lit)
  | .tuple cs => .tup (cs.toList.map .lit)
  | v => .lit v

def ev (ρ : Env) : Operand → MV
  | .tmp t => ρ t
  | .const v => constM v
  | .global g => .lit (.pointer (some ⟨g, 0, none⟩))
  | .func f => .fn (.func f) [] []

theorem conc_lits (μ : Mu) (cs : List Value) : concs μ (cs.map .lit) = cs := by
  induction cs with
  | nil => simp [concs]
  | cons c cs ih => simp [concs, conc, ih]
theorem ok_lits (μ : Mu) (cs : List Value) : Oks μ (cs.map .lit) := by
  induction cs with
  | nil => simp [Oks]
  | cons c cs ih => simp [Oks, Ok, ih]

theorem conc_const (μ : Mu) (v : Value) : conc μ (constM v) = v ∧ Ok μ (constM v) := by
  cases v <;> simp [constM, conc, Ok, conc_lits, ok_lits]

/-- The real temporaries stand for the small ones. -/
structure Tm (μ : Mu) (ρ : Env) (a : Act) : Prop where
  val : ∀ t, conc μ (ρ t) = a.tmps.getD t undef
  ok : ∀ t, Ok μ (ρ t)

theorem Tm.ev {μ ρ a} (h : Tm μ ρ a) (x : Operand) : conc μ (ev ρ x) = a.eval x ∧ Ok μ (ev ρ x) := by
  cases x with
  | tmp t => exact ⟨h.val t, h.ok t⟩
  | const v => exact conc_const μ v
  | global g => simp [M.ev, conc, Ok, Act.eval]
  | func f => simp [M.ev, conc, Ok, Oks, concs, Act.eval]

theorem Tm.mono {μ μ' ρ a} (h : Tm μ ρ a) (hm : Mle μ μ') : Tm μ' ρ a :=
  ⟨fun t => by rw [(ok_mono hm _ (h.ok t)).2]; exact h.val t, fun t => (ok_mono hm _ (h.ok t)).1⟩

theorem Tm.put {μ ρ a} (h : Tm μ ρ a) (d : Option Tmp) (hd : ∀ t, d = some t → t < a.tmps.size) {v : MV} (hv : Ok μ v) : Tm μ (put ρ d v) (a.put d (conc μ v)) := by
  cases d with
  | none => exact h
  | some d =>
    have hlt := hd d rfl
    refine ⟨fun t => ?_, fun t => ?_⟩
    · simp only [M.put, Act.put]
      split
      · rename_i he; subst he; simp [hlt]
      · rename_i he
        rw [h.val t]
        simp [Array.getElem?_setIfInBounds_ne (Ne.symm he)]
    · simp only [M.put]
      split
      · exact hv
      · exact h.ok t

/-! ### Operations that look at no memory -/

def asB : MV → Option Bool
  | .lit (.bool b) => some b
  | _ => none

def cellsM : MV → List MV
  | .agg vs => vs
  | .lit v => v.cells.toList.map .lit
  | v => [v]

/-- A value that one cell holds. -/
def one : MV → Bool
  | .agg _ | .tup _ => false
  | .lit (.agg _) | .lit (.tuple _) => false
  | _ => true

theorem cells_conc (μ : Mu) (v : MV) : (conc μ v).cells = (concs μ (cellsM v)).toArray := by
  cases v with
  | lit v => simp [conc, cellsM, conc_lits]
  | agg vs => simp [conc, cellsM, Value.cells]
  | _ => simp [conc, cellsM, Value.cells, concs]

theorem ok_cells {μ : Mu} {v : MV} (h : Ok μ v) : Oks μ (cellsM v) := by
  cases v with
  | lit v => simp [cellsM, ok_lits]
  | agg vs => simpa [Ok, cellsM] using h
  | _ => simpa [cellsM, Oks] using h

def fillM (place : Nat → Option (Nat × Nat)) (cells : List MV) : List (Nat × MV) → Option (List MV)
  | [] => some cells
  | (i, v) :: rest =>
    match place i with
    | none => none
    | some (off, size) =>
      if (cellsM v).length ≠ size || off + (cellsM v).length > cells.length then none
      else fillM place ((cellsM v).zipIdx.foldl (fun cs (c, j) => cs.set (off + j) c) cells) rest

theorem foldl_set (μ : Mu) (off : Nat) : ∀ (vs : List MV) (k : Nat) (cells : List MV),
    ((concs μ vs).zipIdx k).foldl (fun (cs : Array Value) (x : Value × Nat) => cs.setIfInBounds (off + x.2) x.1) (concs μ cells).toArray =
      (concs μ ((vs.zipIdx k).foldl (fun cs (x : MV × Nat) => cs.set (off + x.2) x.1) cells)).toArray
  | [], _, _ => by simp [concs]
  | v :: vs, k, cells => by
    simp only [concs, List.zipIdx_cons, List.foldl_cons]
    rw [← foldl_set μ off vs (k + 1)]
    congr 1
    simp [concs_map]

theorem foldl_set_ok (μ : Mu) (off : Nat) : ∀ (vs : List MV) (k : Nat) (cells : List MV), Oks μ vs → Oks μ cells →
    Oks μ ((vs.zipIdx k).foldl (fun cs (x : MV × Nat) => cs.set (off + x.2) x.1) cells)
  | [], _, _, _, h => by simpa using h
  | v :: vs, k, cells, hv, h => by
    simp only [List.zipIdx_cons, List.foldl_cons]
    have hv : Ok μ v ∧ Oks μ vs := by simpa [Oks] using hv
    refine foldl_set_ok μ off vs (k + 1) _ hv.2 ?_
    rw [oks_iff] at h ⊢
    intro x hx
    rcases List.mem_or_eq_of_mem_set hx with h1 | h1
    · exact h x h1
    · rw [h1]; exact hv.1

theorem fill_conc (μ : Mu) (place : Nat → Option (Nat × Nat)) : ∀ (parts : List (Nat × MV)) (cells out : List MV), fillM place cells parts = some out →
    Instr.fill place (concs μ cells).toArray (parts.map fun x => (x.1, conc μ x.2)) = some (concs μ out).toArray ∧ ((∀ x ∈ parts, Ok μ x.2) → Oks μ cells → Oks μ out)
  | [], cells, out, h => by
    simp only [fillM, Option.some.injEq] at h
    subst h
    exact ⟨by simp [Instr.fill], fun _ h => h⟩
  | (i, v) :: rest, cells, out, h => by
    simp only [fillM] at h
    cases hp : place i with
    | none => rw [hp] at h; simp at h
    | some os =>
      obtain ⟨off, size⟩ := os
      rw [hp] at h
      simp only at h
      split at h
      · cases h
      · rename_i hc
        have ih := fill_conc μ place rest _ out h
        have hlen : (concs μ cells).length = cells.length := by simp [concs_map]
        have hlen2 : (concs μ (cellsM v)).length = (cellsM v).length := by simp [concs_map]
        refine ⟨?_, fun hok hcs => ih.2 (fun x hx => hok x (List.mem_cons_of_mem _ hx)) (foldl_set_ok μ off _ 0 _ (ok_cells (hok (i, v) (List.mem_cons_self ..))) hcs)⟩
        simp only [List.map_cons, Instr.fill, hp, cells_conc, List.size_toArray, hlen, hlen2]
        rw [if_neg hc, ← ih.1]
        congr 1
        rw [← foldl_set μ off (cellsM v) 0 cells]
        rw [← Array.foldl_toList]
        simp

/-- Are all cells whole numbers? Then an '==' of structs of such is that of the cells. -/
def eqL : List MV → List MV → Option Bool
  | [], [] => some true
  | .lit (.int k a) :: xs, .lit (.int k' b) :: ys => if k = k' then (eqL xs ys).map fun r => (a == b) && r else none
  | _, _ => none

/-- A struct whose fields are whole numbers, one cell each, in order. -/
def flatB (P : Program) (t : TypeId) : Bool := match P.underlying t with
  | some (.struct fs) => !P.stoodInHeld t && !P.eqGuardType P.depth t && fs.toList.zipIdx.all fun (f, i) => f.name != "_" && f.offset == i && (match P.underlying f.type with | some (.int _) => true | _ => false)
  | _ => false

def nfields (P : Program) (t : TypeId) : Nat := match P.underlying t with
  | some (.struct fs) => fs.size
  | _ => 0

def shlV (k : IntKind) (x y : Int) : Int := k.wrap (x * 2 ^ (min y.toNat k.bits))
def shrV (k : IntKind) (x y : Int) : Int := x.fdiv (2 ^ (min y.toNat k.bits))

def binV (P : Program) (op : BinOp) (t : TypeId) (x y : MV) : Option MV :=
  match x, y with
  | .lit (.int k a), .lit (.int k' b) =>
    match op with
    | .shl => if b < 0 then none else some (.lit (.int k (shlV k a b)))
    | .shr => if b < 0 then none else some (.lit (.int k (shrV k a b)))
    | _ => if k ≠ k' then none else match op with
      | .add => some (.lit (.int k (k.wrap (a + b))))
      | .sub => some (.lit (.int k (k.wrap (a - b))))
      | .mul => some (.lit (.int k (k.wrap (a * b))))
      | .quo => if b = 0 then none else some (.lit (.int k (k.wrap (a.tdiv b))))
      | .rem => if b = 0 then none else some (.lit (.int k (a.tmod b)))
      | .and | .or | .xor | .andNot => some (.lit (.int k (bits op k a b)))
      | .eql => some (.lit (.bool (a == b)))
      | .neq => some (.lit (.bool (a != b)))
      | .lss => some (.lit (.bool (decide (a < b))))
      | .leq => some (.lit (.bool (decide (a ≤ b))))
      | .gtr => some (.lit (.bool (decide (a > b))))
      | .geq => some (.lit (.bool (decide (a ≥ b))))
      | _ => none
  | .lit (.bool a), .lit (.bool b) => match P.underlying t, op with
    | some .bool, .eql => some (.lit (.bool (a == b)))
    | some .bool, .neq => some (.lit (.bool (!(a == b))))
    | _, _ => none
  | .ptr _ _, .lit (.pointer none) => match P.underlying t, op with
    | some (.pointer _), .eql => some (.lit (.bool false))
    | some (.pointer _), .neq => some (.lit (.bool true))
    | _, _ => none
  | .lit (.pointer none), .lit (.pointer none) => match P.underlying t, op with
    | some (.pointer _), .eql => some (.lit (.bool true))
    | some (.pointer _), .neq => some (.lit (.bool false))
    | _, _ => none
  | .agg xs, .agg ys =>
    if flatB P t && xs.length == nfields P t && ys.length == nfields P t then
      match op, eqL xs ys with
      | .eql, some r => some (.lit (.bool r))
      | .neq, some r => some (.lit (.bool (!r)))
      | _, _ => none
    else none
  | _, _ => none

def unV (op : UnOp) (x : MV) : Option MV :=
  match op, x with
  | .neg, .lit (.int k n) => some (.lit (.int k (k.wrap (0 - n))))
  | .xor, .lit (.int k n) => some (.lit (.int k (bits .xor k (if k.signed then -1 else k.max) n)))
  | .not, .lit (.bool b) => some (.lit (.bool !b))
  | _, _ => none

def convV (P : Program) (s d : TypeId) (x : MV) : Option MV :=
  match x, (P.underlying s).isSome, (ty P d).k with
  | .lit (.int _ n), true, .int k => some (.lit (.int k (k.wrap n)))
  | _, _, _ => none

def partM (agg : Bool) (sz : Nat) (cs : List MV) (off : Nat) : Option MV :=
  if agg then (if off + sz ≤ cs.length then some (.agg ((cs.drop off).take sz)) else none) else cs[off]?

/-- [l:h] of a slice. -/
def sliceV (esz : Nat) (x : MV) (l h : Option MV) : Option MV :=
  match x with
  | .slice p o n c z =>
    if z = esz then
      match h, l with
      | none, none => some x
      | none, some (.lit (.int _ i)) => if 0 ≤ i ∧ i ≤ n then some (.slice p (if c = i.toNat then o else o + i.toNat * z) (n - i.toNat) (c - i.toNat) z) else none
      | some (.lit (.int _ j)), none => if 0 ≤ j ∧ j ≤ n then some (.slice p o j.toNat c z) else none
      | some (.lit (.int _ j)), some (.lit (.int _ i)) => if 0 ≤ i ∧ i ≤ j ∧ j ≤ n then some (.slice p (if c = i.toNat then o else o + i.toNat * z) (j.toNat - i.toNat) (c - i.toNat) z) else none
      | _, _ => none
    else none
  | _ => none

def slice3V (esz : Nat) (x : MV) (l h : Option MV) (m : MV) : Option MV :=
  match x, h, m with
  | .slice p o n c z, some (.lit (.int _ j)), .lit (.int _ k) =>
    if z = esz then
      match l with
      | none => if 0 ≤ j ∧ j ≤ k ∧ k ≤ c then some (.slice p o j.toNat k.toNat z) else none
      | some (.lit (.int _ i)) => if 0 ≤ i ∧ i ≤ j ∧ j ≤ k ∧ k ≤ c then some (.slice p (if k.toNat = i.toNat then o else o + i.toNat * z) (j.toNat - i.toNat) (k.toNat - i.toNat) z) else none
      | _ => none
    else none
  | _, _, _ => none

def lenV (P : Program) (t : TypeId) (x : MV) : Option MV :=
  match x, (ty P t).k with
  | .slice _ _ n _ _, .slice .. => some (.lit (.int .i64 n))
  | .lit (.slice _ n _), .slice .. => some (.lit (.int .i64 n))
  | .lit (.string s), .string => some (.lit (.int .i64 s.size))
  | _, .array n _ => some (.lit (.int .i64 n))
  | _, _ => none

def maxM (x y : MV) : Option MV := match x, y with
  | .lit (.int k a), .lit (.int _ b) => some (.lit (.int k (if b > a then b else a)))
  | _, _ => none
def minM (x y : MV) : Option MV := match x, y with
  | .lit (.int k a), .lit (.int _ b) => some (.lit (.int k (if b < a then b else a)))
  | _, _ => none
def foldV (f : MV → MV → Option MV) : MV → List MV → Option MV
  | x, [] => some x
  | x, y :: ys => (f x y).bind fun z => foldV f z ys

def evs (ρ : Env) (xs : Array Operand) : List MV := xs.toList.map (ev ρ)

/-- What an operation that looks at no memory answers. -/
def pureV (P : Program) (o : Op) (ρ : Env) : Option MV :=
  match o with
  | .move x | .assign x => some (ev ρ x)
  | .pick c a b => (asB (ev ρ c)).map fun t => if t then ev ρ a else ev ρ b
  | .build t parts => match (ty P t).zero, (ty P t).k with
    | some z, .struct fs => (fillM (fs[·]?) (z.map .lit) (parts.toList.map fun x => (x.1, ev ρ x.2))).map .agg
    | some z, .array n e => (fillM (fun i => some (i * e, e)) (z.map .lit) (parts.toList.map fun x => (x.1, ev ρ x.2))).map .agg
    | _, _ => none
  | .nilCheck x => match ev ρ x with
    | .ptr p o => some (.ptr p o)
    | _ => none
  | .binOp op t x y _ => binV P op t (ev ρ x) (ev ρ y)
  | .unOp op _ x => unV op (ev ρ x)
  | .convert s d x => convV P s d (ev ρ x)
  | .extract x i => match ev ρ x with
    | .tup vs => vs[i]?
    | _ => none
  | .fieldAddr t x i => match ev ρ x, (ty P t).k with
    | .ptr p o, .struct fs => match fs[i]? with
      | some (off, sz) => if sz = 0 then none else some (.ptr p (o + off))
      | none => none
    | _, _ => none
  | .field t x i => match ev ρ x, P.underlying t with
    | .agg vs, some (.struct fs) => match fs[i]? with
      | some f => match (ty P f.type).sz with
        | some s => if (ty P f.type).known then partM (ty P f.type).agg s vs f.offset else none
        | none => none
      | none => none
    | _, _ => none
  | .indexAddr t x i => match ev ρ x, ev ρ i, (ty P t).k with
    | .slice p o n _ _, .lit (.int _ j), .slice esz _ _ _ => if 0 ≤ j ∧ j < n then some (.ptr p (o + j.toNat * esz)) else none
    | .ptr p o, .lit (.int _ j), .array n esz => if 0 ≤ j ∧ j < n then some (.ptr p (o + j.toNat * esz)) else none
    | .lit (.pointer (some ⟨b, o, none⟩)), .lit (.int _ j), .array n esz => if 0 ≤ j ∧ j < n then some (.lit (.pointer (some ⟨b, o + j.toNat * esz, none⟩))) else none
    | _, _, _ => none
  | .index t x i => match ev ρ x, ev ρ i, (ty P t).k with
    | .lit (.string s), .lit (.int _ j), .string => if 0 ≤ j then (s[j.toNat]?).map fun b => .lit (.int .u8 b.toNat) else none
    | _, _, _ => none
  | .slice t x l h none => match (ty P t).k with
    | .slice esz _ _ _ => sliceV esz (ev ρ x) (l.map (ev ρ)) (h.map (ev ρ))
    | _ => none
  | .slice t x l h (some m) => match (ty P t).k with
    | .slice esz _ _ _ => slice3V esz (ev ρ x) (l.map (ev ρ)) (h.map (ev ρ)) (ev ρ m)
    | _ => none
  | .makeFunc f a b => some (.fn f (evs ρ a) (evs ρ b))
  | .call { callee := .builtin b, args, argTypes } => match b with
    | .len => match argTypes[0]?, args[0]? with
      | some t, some x => lenV P t (ev ρ x)
      | _, _ => none
    | .max => match evs ρ args with
      | x :: xs => foldV maxM x xs
      | [] => none
    | .min => match evs ρ args with
      | x :: xs => foldV minM x xs
      | [] => none
    | _ => none
  | _ => none

end Go.Proofs.YtcikcinkjbbnhaaDoor.M

/- The small machine, third part: operations that look at no memory are met by the real ones. -/
set_option linter.unusedSimpArgs false
set_option linter.unusedVariables false
namespace Go.Proofs.YtcikcinkjbbnhaaDoor.M
open Go

theorem ty_k {P : Program} {t : TypeId} : (ty P t).k = match P.underlying t with
    | some (.struct fs) => if fs.all (fun f => (P.info? f.type).isSome) then .struct (fs.toList.map fun f => (f.offset, szOf P f.type)) else .other
    | some (.slice e) => match P.info? e with
      | some i => .slice i.size i.bytes (i.zero.map (·.cells.toList)) ((P.underlying e) matches some (.int _))
      | _ => .other
    | some (.array n e) => match P.info? e with
      | some i => .array n i.size
      | _ => .other
    | some .string => .string
    | some (.int k) => .int k
    | some .bool => .bool
    | some (.pointer _) => .ptr
    | some _ => .other
    | _ => .none := rfl

theorem ty_struct {P : Program} {t : TypeId} {fs : List (Nat × Nat)} (h : (ty P t).k = .struct fs) :
    ∃ g, P.underlying t = some (.struct g) ∧ (∀ f ∈ g.toList, (P.info? f.type).isSome = true) ∧ fs = g.toList.map fun f => (f.offset, szOf P f.type) := by
  rw [ty_k] at h
  split at h <;> try (cases h; done)
  · rename_i g hg
    split at h
    · rename_i hall
      cases h
      exact ⟨g, hg, fun f hf => by simpa using (Array.all_eq_true_iff_forall_mem.1 hall f (Array.mem_toList_iff.1 hf)), rfl⟩
    · cases h
  · split at h <;> cases h
  · split at h <;> cases h

theorem ty_slice {P : Program} {t : TypeId} {a b c d} (h : (ty P t).k = .slice a b c d) :
    ∃ e i, P.underlying t = some (.slice e) ∧ P.info? e = some i ∧ a = i.size ∧ b = i.bytes ∧ c = i.zero.map (·.cells.toList) ∧ d = ((P.underlying e) matches some (.int _)) := by
  rw [ty_k] at h
  split at h <;> try (cases h; done)
  · split at h <;> cases h
  · rename_i e he
    split at h
    · rename_i i hi
      cases h
      exact ⟨e, i, he, hi, rfl, rfl, rfl, rfl⟩
    · cases h
  · split at h <;> cases h

theorem ty_array {P : Program} {t : TypeId} {n e} (h : (ty P t).k = .array n e) :
    ∃ u i, P.underlying t = some (.array n u) ∧ P.info? u = some i ∧ e = i.size := by
  rw [ty_k] at h
  split at h <;> try (cases h; done)
  · split at h <;> cases h
  · split at h <;> cases h
  · rename_i n' u hu
    split at h
    · rename_i i hi
      cases h
      exact ⟨u, i, hu, hi, rfl⟩
    · cases h

theorem ty_string {P : Program} {t : TypeId} (h : (ty P t).k = .string) : P.underlying t = some .string := by
  rw [ty_k] at h
  split at h <;> first | assumption | (cases h; done) | (split at h <;> cases h)
theorem ty_int {P : Program} {t : TypeId} {k} (h : (ty P t).k = .int k) : P.underlying t = some (.int k) := by
  rw [ty_k] at h
  split at h <;> first | (cases h; assumption) | (cases h; done) | (split at h <;> cases h)

theorem run_sizeOf {P : Program} {t : TypeId} {i : TypeInfo} (h : P.info? t = some i) (w : World) : (sizeOf t).run P w = .ok i.size w := by
  simp [sizeOf, typeInfo, h]
theorem run_typeInfo {P : Program} {t : TypeId} {i : TypeInfo} (h : P.info? t = some i) (w : World) : (typeInfo t).run P w = .ok i w := by
  simp [typeInfo, h]
theorem run_zeroValue {P : Program} {t : TypeId} {z : List Value} (h : (ty P t).zero = some z) (w : World) : ∃ v, (zeroValue t).run P w = .ok v w ∧ v.cells = z.toArray := by
  have h' : ((P.info? t).bind (·.zero)).map (·.cells.toList) = some z := h
  cases hi : P.info? t with
  | none => rw [hi] at h'; simp at h'
  | some i =>
    rw [hi] at h'
    simp only [Option.bind_some, Option.map_eq_some_iff] at h'
    obtain ⟨v, hv, hz⟩ := h'
    exact ⟨v, by simp [zeroValue, typeInfo, hi, hv], by rw [← hz]⟩

theorem run_isAgg {P : Program} {t : TypeId} (h : (ty P t).known = true) (w : World) : (isAgg t).run P w = .ok (ty P t).agg w := by
  obtain ⟨d, hd⟩ := Option.isSome_iff_exists.1 (show (P.underlying t).isSome = true from h)
  show _ = Result.ok (match P.underlying t with | some (.struct _) | some (.array _ _) => true | _ => false) w
  cases d <;> simp [isAgg, underlying, hd]

theorem eqL_sound {P : Program} {d : Nat} : ∀ (fs : List Field) (i : Nat) (xs ys : List MV) (pre pre' : List Value) (μ : Mu) (r : Bool) (w : World),
    (fs.zipIdx i).all (fun (f, i) => f.name != "_" && f.offset == i && (match P.underlying f.type with | some (.int _) => true | _ => false)) = true →
    xs.length = fs.length → ys.length = fs.length → pre.length = i → pre'.length = i → eqL xs ys = some r →
    (Op.eqFields (d + 1) (pre ++ concs μ xs).toArray (pre' ++ concs μ ys).toArray fs).run P w = .ok r w
  | [], _, xs, ys, pre, pre', μ, r, w, _, hx, hy, _, _, he => by
    simp only [List.length_nil, List.length_eq_zero_iff] at hx hy
    subst hx; subst hy
    simp only [eqL, Option.some.injEq] at he
    subst he
    simp [Op.eqFields]
  | f :: fs, i, x :: xs, y :: ys, pre, pre', μ, r, w, h, hx, hy, hp, hp', he => by
    simp only [List.zipIdx_cons, List.all_cons, Bool.and_eq_true, bne_iff_ne, ne_eq, beq_iff_eq] at h
    obtain ⟨⟨⟨hn, ho⟩, hb⟩, hr⟩ := h
    have hu : ∃ k, P.underlying f.type = some (.int k) := by
      cases hu : P.underlying f.type with
      | none => rw [hu] at hb; simp at hb
      | some dd => rw [hu] at hb; cases dd <;> simp at hb; simp
    obtain ⟨k0, hu⟩ := hu
    have hagg : (isAgg f.type).run P w = .ok false w := by simp [isAgg, underlying, hu]
    have hpart : ∀ (pre : List Value) (x : MV) (xs : List MV), pre.length = i → (part f.type (pre ++ concs μ (x :: xs)).toArray f.offset).run P w = .ok (conc μ x) w := by
      intro pre x xs hl
      subst ho
      simp [part, hagg, concs, hl.symm]
    have hrest : ∀ r', eqL xs ys = some r' → (Op.eqFields (d + 1) (pre ++ concs μ (x :: xs)).toArray (pre' ++ concs μ (y :: ys)).toArray fs).run P w = .ok r' w := by
      intro r' hr'
      have := eqL_sound (P := P) (d := d) fs (i + 1) xs ys (pre ++ [conc μ x]) (pre' ++ [conc μ y]) μ r' w (by simpa using hr) (by simpa using hx) (by simpa using hy) (by simp [hp]) (by simp [hp']) hr'
      simpa [concs] using this
    simp only [Op.eqFields, if_pos hn, Sem.run_bind, hpart pre x xs hp, hpart pre' y ys hp', Result.andThen_ok]
    unfold eqL at he
    split at he
    · rename_i h1 h2; cases h1
    · rename_i k a xs' k' b ys' h1 h2
      cases h1; cases h2
      split at he
      · rename_i hk
        subst hk
        simp only [Option.map_eq_some_iff] at he
        obtain ⟨r', hr', hre⟩ := he
        simp only [conc, run_equalIn_int w d f.type k k0 a b hu, Result.andThen_ok]
        cases hab : (a == b)
        · rw [hab] at hre
          simp only [Bool.false_and] at hre
          subst hre
          simp
        · rw [hab] at hre
          simp only [Bool.true_and] at hre
          subst hre
          simpa [conc] using hrest r' hr'
      · cases he
    · cases he
  | _ :: _, _, [], _, _, _, _, _, _, _, hx, _, _, _, _ => by simp at hx
  | _ :: _, _, _ :: _, [], _, _, _, _, _, _, _, hy, _, _, _ => by simp at hy

theorem eqGuard_agg {P : Program} {op : BinOp} {t : TypeId} {x y : Operand} {xs ys : Array Value} (h : P.eqGuardType P.depth t = false) (w : World) :
    (eqGuard op t x y (.agg xs) (.agg ys)).run P w = .ok () w := by
  cases op <;> simp [eqGuard, h]

theorem equal_bool {P : Program} {t : TypeId} (hu : P.underlying t = some .bool) (a b : Bool) (w : World) : (Op.equal t (.bool a) (.bool b)).run P w = .ok (a == b) w :=
  run_equalIn_bool' w 9999 t a b hu
theorem equalIn_nil {P : Program} {t e : TypeId} (d : Nat) (hu : P.underlying t = some (.pointer e)) (w : World) : (Op.equalIn (d + 1) t (.pointer none) (.pointer none)).run P w = .ok true w := by
  simp [Op.equalIn, underlying, hu]
theorem equalIn_ptr {P : Program} {t e : TypeId} (d : Nat) (hu : P.underlying t = some (.pointer e)) (a : Addr) (w : World) : (Op.equalIn (d + 1) t (.pointer (some a)) (.pointer none)).run P w = .ok false w := by
  simp [Op.equalIn, underlying, hu]
theorem equal_nil {P : Program} {t e : TypeId} (hu : P.underlying t = some (.pointer e)) (w : World) : (Op.equal t (.pointer none) (.pointer none)).run P w = .ok true w := equalIn_nil 9999 hu w
theorem equal_ptr {P : Program} {t e : TypeId} (hu : P.underlying t = some (.pointer e)) (a : Addr) (w : World) : (Op.equal t (.pointer (some a)) (.pointer none)).run P w = .ok false w := equalIn_ptr 9999 hu a w
theorem bin_eql_bool (t : TypeId) (a b : Bool) : binOp .eql t (.bool a) (.bool b) = (do pure (.bool (← Op.equal t (.bool a) (.bool b)))) := rfl
theorem bin_neq_bool (t : TypeId) (a b : Bool) : binOp .neq t (.bool a) (.bool b) = (do pure (.bool (!(← Op.equal t (.bool a) (.bool b))))) := rfl
theorem bin_eql_ptr (t : TypeId) (a b : Option Addr) : binOp .eql t (.pointer a) (.pointer b) = (do pure (.bool (← Op.equal t (.pointer a) (.pointer b)))) := rfl
theorem bin_neq_ptr (t : TypeId) (a b : Option Addr) : binOp .neq t (.pointer a) (.pointer b) = (do pure (.bool (!(← Op.equal t (.pointer a) (.pointer b))))) := rfl
theorem bin_eql_agg (t : TypeId) (a b : Array Value) : binOp .eql t (.agg a) (.agg b) = (do pure (.bool (← Op.equal t (.agg a) (.agg b)))) := rfl
theorem bin_neq_agg (t : TypeId) (a b : Array Value) : binOp .neq t (.agg a) (.agg b) = (do pure (.bool (!(← Op.equal t (.agg a) (.agg b))))) := rfl

theorem binV_sound {P : Program} {op : BinOp} {t : TypeId} {x y : MV} {v : MV} (h : binV P op t x y = some v) (μ : Mu) (hx : Ok μ x) (ox oy : Operand) (w : World) :
    ((do eqGuard op t ox oy (conc μ x) (conc μ y); binOp op t (conc μ x) (conc μ y) : Sem Value)).run P w = .ok (conc μ v) w ∧ Ok μ v := by
  unfold binV at h
  split at h
  · rename_i k a k' b
    simp only [conc]
    split at h
    · split at h
      · cases h
      · rename_i hb
        cases h
        simp [eqGuard, binOp, Op.shift, hb, conc, Ok, shlV]
    · split at h
      · cases h
      · rename_i hb
        cases h
        simp [eqGuard, binOp, Op.shift, hb, conc, Ok, shrV]
    · split at h
      · cases h
      · rename_i hn1 hn2 hk
        simp only [ne_eq, Decidable.not_not] at hk
        subst hk
        cases op <;> simp only [Option.some.injEq, reduceCtorEq] at h <;> first
          | (subst h; simp [eqGuard, binOp, Op.intArith, Op.intBits, Op.intCmp, conc, Ok, bits]; done)
          | (split at h <;> first | (cases h; done) | (rename_i hb; cases h; simp [eqGuard, binOp, Op.intDiv, hb, conc, Ok]; done))
          | exact absurd rfl (hn1)
          | exact absurd rfl (hn2)
          | skip
  · rename_i a b
    simp only [conc]
    have hg : ∀ op, (eqGuard op t ox oy (.bool a) (.bool b)) = pure () := fun op => by cases op <;> rfl
    split at h
    · rename_i hu
      cases h
      simp [hg, bin_eql_bool, bin_neq_bool, equal_bool hu, conc, Ok]
    · rename_i hu
      cases h
      simp [hg, bin_eql_bool, bin_neq_bool, equal_bool hu, conc, Ok]
    · cases h
  · rename_i p o
    simp only [conc]
    have hg : ∀ op a, (eqGuard op t ox oy (.pointer a) (.pointer none)) = pure () := fun op a => by cases op <;> rfl
    obtain ⟨l, hl⟩ := by simpa [Ok] using hx
    have hl : loc μ p o = some ⟨l.b, l.off + o, none⟩ := by simp [loc, hl]
    rw [hl]
    · split at h
      · rename_i hu
        cases h
        simp [hg, bin_eql_ptr, bin_neq_ptr, equal_nil hu, equal_ptr hu, conc, Ok]
      · rename_i hu
        cases h
        simp [hg, bin_eql_ptr, bin_neq_ptr, equal_nil hu, equal_ptr hu, conc, Ok]
      · cases h
  · simp only [conc]
    have hg : ∀ op a, (eqGuard op t ox oy (.pointer a) (.pointer none)) = pure () := fun op a => by cases op <;> rfl
    split at h
    · rename_i hu
      cases h
      simp [hg, bin_eql_ptr, bin_neq_ptr, equal_nil hu, equal_ptr hu, conc, Ok]
    · rename_i hu
      cases h
      simp [hg, bin_eql_ptr, bin_neq_ptr, equal_nil hu, equal_ptr hu, conc, Ok]
    · cases h
  · rename_i xs ys
    split at h
    · rename_i hf
      simp only [Bool.and_eq_true, beq_iff_eq] at hf
      obtain ⟨⟨hf, hx⟩, hy⟩ := hf
      unfold flatB at hf
      cases hu : P.underlying t with
      | none => rw [hu] at hf; simp at hf
      | some d =>
        cases d <;> (rw [hu] at hf; simp only [Bool.false_eq_true] at hf)
        rename_i fs
        simp only [Bool.and_eq_true, Bool.not_eq_true'] at hf
        obtain ⟨⟨hs, hg⟩, hall⟩ := hf
        simp only [nfields, hu] at hx hy
        have heq : ∀ r, eqL xs ys = some r → (Op.equal t (.agg (concs μ xs).toArray) (.agg (concs μ ys).toArray)).run P w = .ok r w := by
          intro r hr
          have h0 := run_equalIn_struct (P := P) w (9998 + 1) t (concs μ xs).toArray (concs μ ys).toArray (by simp [Program.fieldsOf, hu]) hs
          have h1 : P.fieldsOf t = fs := by simp [Program.fieldsOf, hu]
          rw [h1] at h0
          have h2 := eqL_sound (P := P) (d := 9998) fs.toList 0 xs ys [] [] μ r w hall (by simpa using hx) (by simpa using hy) rfl rfl hr
          simp only [List.nil_append] at h2
          rw [h2] at h0
          exact h0
        simp only [conc]
        split at h
        · rename_i r hr
          cases h
          simp [eqGuard_agg hg, bin_eql_agg, bin_neq_agg, heq r hr, conc, Ok]
        · rename_i r hr
          cases h
          simp [eqGuard_agg hg, bin_eql_agg, bin_neq_agg, heq r hr, conc, Ok]
        · cases h
    · cases h
  · cases h

end Go.Proofs.YtcikcinkjbbnhaaDoor.M

/- The small machine, fourth part: all operations that look at no memory. -/
set_option linter.unusedSimpArgs false
set_option linter.unusedVariables false
namespace Go.Proofs.YtcikcinkjbbnhaaDoor.M
open Go

/-- The real operation answers what the small one does, in whatever world. -/
def Ans (P : Program) (o : Oper) (a : Act) (μ : Mu) (v : MV) : Prop := (∀ w, (execOp a.eval o).run P w = .ok (.value (conc μ v)) w) ∧ Ok μ v

theorem conc_lit (μ : Mu) (v : Value) : conc μ (.lit v) = v := by simp [conc]
theorem ok_lit (μ : Mu) (v : Value) : Ok μ (.lit v) := by simp [Ok]

theorem loc_some {μ : Mu} {p : Nat} {l : Loc} (h : μ p = some l) (o : Nat) : loc μ p o = some ⟨l.b, l.off + o, none⟩ := by simp [loc, h]
theorem loc_add {μ : Mu} {p : Nat} {l : Loc} (h : μ p = some l) (o n : Nat) : (⟨l.b, l.off + o, none⟩ : Addr).add n = ⟨l.b, l.off + (o + n), none⟩ := by
  rw [Addr.add_lit]; simp [Nat.add_assoc]

theorem Tm.evs {μ ρ a} (h : Tm μ ρ a) (xs : Array Operand) : (xs.map a.eval) = (concs μ (evs ρ xs)).toArray ∧ Oks μ (evs ρ xs) := by
  constructor
  · apply Array.ext'
    simp only [Array.toList_map, M.evs, concs_map, List.map_map]
    exact List.map_congr_left fun x _ => ((h.ev x).1).symm
  · rw [oks_iff]
    intro v hv
    simp only [M.evs, List.mem_map] at hv
    obtain ⟨x, _, rfl⟩ := hv
    exact (h.ev x).2

theorem foldV_sound {P : Program} {f : MV → MV → Option MV} {g : Value → Value → Sem Value} (hfg : ∀ x y z, f x y = some z → ∀ μ w, (g (conc μ x) (conc μ y)).run P w = .ok (conc μ z) w ∧ Ok μ z) :
    ∀ (xs : List MV) (x z : MV), foldV f x xs = some z → ∀ μ w, Ok μ x → ((concs μ xs).foldlM g (conc μ x)).run P w = .ok (conc μ z) w ∧ Ok μ z
  | [], x, z, h, μ, w, hx => by
    simp only [foldV, Option.some.injEq] at h
    subst h
    simp [concs, hx]
  | y :: ys, x, z, h, μ, w, hx => by
    simp only [foldV, Option.bind_eq_some_iff] at h
    obtain ⟨u, hu, hr⟩ := h
    have h1 := hfg x y u hu μ w
    have h2 := foldV_sound hfg ys u z hr μ w h1.2
    simp only [concs, List.foldlM_cons, Sem.run_bind, h1.1, Result.andThen_ok]
    exact h2

theorem maxM_sound {P : Program} (x y z : MV) (h : maxM x y = some z) (μ : Mu) (w : World) : (Builtin.max2 (conc μ x) (conc μ y)).run P w = .ok (conc μ z) w ∧ Ok μ z := by
  unfold maxM at h
  split at h
  · cases h; simp [conc, Builtin.max2, Ok]
  · cases h
theorem minM_sound {P : Program} (x y z : MV) (h : minM x y = some z) (μ : Mu) (w : World) : (Builtin.min2 (conc μ x) (conc μ y)).run P w = .ok (conc μ z) w ∧ Ok μ z := by
  unfold minM at h
  split at h
  · cases h; simp [conc, Builtin.min2, Ok]
  · cases h

theorem run_places {P : Program} (w : World) : ∀ fs : List Field, (∀ f ∈ fs, (P.info? f.type).isSome = true) →
    ((fs.mapM fun f => do pure (f.offset, ← sizeOf f.type) : Sem (List (Nat × Nat)))).run P w = .ok (fs.map fun f => (f.offset, szOf P f.type)) w
  | [], _ => by simp
  | f :: fs, h => by
    obtain ⟨i, hi⟩ := Option.isSome_iff_exists.1 (h f (List.mem_cons_self ..))
    have ih := run_places (P := P) w fs (fun g hg => h g (List.mem_cons_of_mem _ hg))
    simp only [bind_pure_comp] at ih
    simp [List.mapM_cons, run_sizeOf hi, ih, szOf, hi]

theorem run_sliceBound {P : Program} {k : IntKind} {i : Int} {y : Nat} {c : BoundsCode} (h : 0 ≤ i ∧ i ≤ y) (w : World) : (Instr.sliceBound (.int k i) y c).run P w = .ok i.toNat w := by
  simp [Instr.sliceBound, asIntOf, h]

end Go.Proofs.YtcikcinkjbbnhaaDoor.M

/- The small machine, fifth part: each operation that looks at no memory is met. -/
set_option linter.unusedSimpArgs false
set_option linter.unusedVariables false
namespace Go.Proofs.YtcikcinkjbbnhaaDoor.M
open Go

theorem run_build_places {P : Program} (w : World) (fs : Array Field) (h : ∀ f ∈ fs.toList, (P.info? f.type).isSome = true) :
    ((fs.mapM fun f => do pure (f.offset, ← sizeOf f.type) : Sem (Array (Nat × Nat)))).run P w = .ok (fs.toList.map fun f => (f.offset, szOf P f.type)).toArray w := by
  have := run_places (P := P) w fs.toList h
  rw [Array.mapM_eq_mapM_toList]
  simp only [Sem.run_map, this, Result.andThen_ok]

theorem run_underlying' {P : Program} {t : TypeId} {d : TypeDesc} (h : P.underlying t = some d) (w : World) : (underlying t).run P w = .ok d w := run_underlying h w

theorem pure_sound {P : Program} {o : Oper} {ρ : Env} {v : MV} (h : pureV P o.op ρ = some v) {μ : Mu} {a : Act} (ht : Tm μ ρ a) : Ans P o a μ v := by
  obtain ⟨dst, op, typ, pos, aft, grd⟩ := o
  simp only at h
  unfold Ans
  unfold pureV at h
  split at h
  · rename_i x
    cases h
    exact ⟨fun w => by simp [execOp, (ht.ev x).1], (ht.ev x).2⟩
  · rename_i x
    cases h
    exact ⟨fun w => by simp [execOp, (ht.ev x).1], (ht.ev x).2⟩
  · rename_i c x y
    simp only [Option.map_eq_some_iff] at h
    obtain ⟨b, hb, hv⟩ := h
    have hc : a.eval c = .bool b := by
      rw [← (ht.ev c).1]
      unfold asB at hb
      split at hb
      · rename_i b' he; cases hb; rw [he]; simp [conc]
      · cases hb
    cases b
    · simp only [Bool.false_eq_true, if_false] at hv
      subst hv
      exact ⟨fun w => by simp [execOp, hc, asBool, (ht.ev y).1], (ht.ev y).2⟩
    · simp only [if_true] at hv
      subst hv
      exact ⟨fun w => by simp [execOp, hc, asBool, (ht.ev x).1], (ht.ev x).2⟩
  · rename_i t parts
    have hparts : ((parts.map fun (i, x) => (i, a.eval x)).toList) = ((parts.toList.map fun x => (x.1, ev ρ x.2)).map fun x => (x.1, conc μ x.2)) := by
      simp only [Array.toList_map, List.map_map]
      exact List.map_congr_left fun x _ => by simp [(ht.ev x.2).1]
    have hpok : ∀ x ∈ (parts.toList.map fun x => (x.1, ev ρ x.2)), Ok μ x.2 := by
      intro x hx
      simp only [List.mem_map] at hx
      obtain ⟨y, _, rfl⟩ := hx
      exact (ht.ev y.2).2
    split at h
    · rename_i z fs hz hk
      simp only [Option.map_eq_some_iff] at h
      obtain ⟨out, hout, rfl⟩ := h
      obtain ⟨g, hg, hinf, rfl⟩ := ty_struct hk
      have hf := fill_conc μ _ _ _ _ hout
      refine ⟨fun w => ?_, by simpa [Ok] using hf.2 hpok (ok_lits μ z)⟩
      obtain ⟨zv, hzv, hzc⟩ := run_zeroValue hz w
      have hpl := run_build_places (P := P) w g hinf
      simp only [bind_pure_comp] at hpl
      simp only [execOp, Instr.build, Sem.run_bind, hzv, Result.andThen_ok, run_underlying hg, hpl, hzc, hparts, bind_pure_comp, Sem.run_map]
      rw [conc_lits] at hf
      have he : (fun x : Nat => (List.map (fun f => (f.offset, szOf P f.type)) g.toList).toArray[x]?) = (fun x : Nat => (List.map (fun f => (f.offset, szOf P f.type)) g.toList)[x]?) := by
        funext x; simp
      rw [he, hf.1]
      simp [conc]
    · rename_i z n e hz hk
      simp only [Option.map_eq_some_iff] at h
      obtain ⟨out, hout, rfl⟩ := h
      obtain ⟨u, i, hu, hi, rfl⟩ := ty_array hk
      have hf := fill_conc μ _ _ _ _ hout
      refine ⟨fun w => ?_, by simpa [Ok] using hf.2 hpok (ok_lits μ z)⟩
      obtain ⟨zv, hzv, hzc⟩ := run_zeroValue hz w
      simp only [execOp, Instr.build, Sem.run_bind, hzv, Result.andThen_ok, run_underlying hu, run_sizeOf hi, hzc, hparts, bind_pure_comp, Sem.run_map]
      rw [conc_lits] at hf
      rw [hf.1]
      simp [conc]
    · cases h
  · rename_i x
    split at h
    · rename_i p q hx
      cases h
      have hh := ht.ev x
      rw [hx] at hh
      obtain ⟨l, hl⟩ := by simpa [Ok] using hh.2
      refine ⟨fun w => ?_, hh.2⟩
      have he : a.eval x = .pointer (some ⟨l.b, l.off + q, none⟩) := by rw [← hh.1]; simp [conc, loc, hl]
      simp [execOp, he, conc, loc, hl]
    · cases h
  · rename_i op t x y yt
    have := fun w => binV_sound h μ (ht.ev x).2 x y w
    refine ⟨fun w => ?_, (this default).2⟩
    have h1 := (this w).1
    rw [(ht.ev x).1, (ht.ev y).1] at h1
    simp only [execOp]
    rw [Sem.run_bind, h1]
    rfl
  · rename_i op t x
    unfold unV at h
    have hx := (ht.ev x).1
    split at h
    · rename_i hv; cases h; rw [hv] at hx; refine ⟨fun w => ?_, by simp [Ok]⟩; simp [execOp, ← hx, conc, Op.unary, Op.intArith]
    · rename_i hv; cases h; rw [hv] at hx; refine ⟨fun w => ?_, by simp [Ok]⟩; simp [execOp, ← hx, conc, Op.unary, intBits_xor]
    · rename_i hv; cases h; rw [hv] at hx; refine ⟨fun w => ?_, by simp [Ok]⟩; simp [execOp, ← hx, conc, Op.unary]
    · cases h
  · rename_i s d x
    unfold convV at h
    have hx := (ht.ev x).1
    split at h
    · rename_i k0 n k hv hs hk
      cases h
      rw [hv] at hx
      obtain ⟨ds, hds⟩ := Option.isSome_iff_exists.1 hs
      refine ⟨fun w => ?_, by simp [Ok]⟩
      simp [execOp, ← hx, conc, convert, run_underlying hds, run_underlying (ty_int hk), Conv.intToInt]
    · cases h
  · rename_i x i
    have hx := ht.ev x
    split at h
    · rename_i vs hv
      rw [hv] at hx
      have hok : Oks μ vs := by simpa [Ok] using hx.2
      refine ⟨fun w => ?_, (oks_iff μ vs).1 hok v (List.mem_of_getElem? h)⟩
      have : (concs μ vs)[i]? = some (conc μ v) := by simp [concs_map, h]
      simp [execOp, ← hx.1, conc, Instr.extract, this]
    · cases h
  · rename_i t x i
    have hx := ht.ev x
    split at h
    · rename_i p q fs hv hk
      rw [hv] at hx
      obtain ⟨l, hl⟩ := by simpa [Ok] using hx.2
      obtain ⟨g, hg, hinf, rfl⟩ := ty_struct hk
      split at h
      · rename_i off sz hfi
        split at h
        · cases h
        · rename_i hsz
          cases h
          simp only [List.getElem?_map, Option.map_eq_some_iff, Prod.mk.injEq] at hfi
          obtain ⟨f, hf, rfl, hs⟩ := hfi
          have hf' : g[i]? = some f := by simpa using hf
          have hmem : f ∈ g.toList := List.mem_of_getElem? hf
          obtain ⟨inf, hinf'⟩ := Option.isSome_iff_exists.1 (hinf f hmem)
          have hne : inf.size ≠ 0 := by
            simp only [szOf, hinf', Option.map_some, Option.getD_some] at hs
            rw [hs]; exact hsz
          refine ⟨fun w => ?_, by simp [Ok, hl]⟩
          simp [execOp, Instr.fieldAt, run_underlying hg, hf', ← hx.1, conc, loc_some hl, Instr.sureAddr, fieldPlace, run_sizeOf hinf', hne, loc_add hl]
      · cases h
    · cases h
  · rename_i t x i
    have hx := ht.ev x
    split at h
    · rename_i vs fs hv hu
      rw [hv] at hx
      have hok : Oks μ vs := by simpa [Ok] using hx.2
      split at h
      · rename_i f hf
        split at h
        · rename_i s hs
          split at h
          · rename_i hkn
            have hsz : ∃ i, P.info? f.type = some i ∧ i.size = s := by
              have : (P.info? f.type).map (·.size) = some s := hs
              simpa using this
            obtain ⟨inf, hinf, rfl⟩ := hsz
            unfold partM at h
            cases hag : (ty P f.type).agg
            · rw [hag] at h
              simp only [Bool.false_eq_true, if_false] at h
              refine ⟨fun w => ?_, (oks_iff μ vs).1 hok v (List.mem_of_getElem? h)⟩
              have : (concs μ vs)[f.offset]? = some (conc μ v) := by simp [concs_map, h]
              have hia := run_isAgg hkn w
              rw [hag] at hia
              simp [execOp, Instr.field, run_underlying hu, hf, ← hx.1, conc, asAgg, part, hia, this]
            · rw [hag] at h
              simp only [if_true] at h
              split at h
              · rename_i hle
                cases h
                refine ⟨fun w => ?_, ?_⟩
                · have hia := run_isAgg hkn w
                  rw [hag] at hia
                  simp [execOp, Instr.field, run_underlying hu, hf, ← hx.1, conc, asAgg, part, hia, run_sizeOf hinf, concs_map, List.take_drop, List.map_take, List.map_drop, Nat.add_comm]
                · simp only [Ok, oks_iff]
                  intro u hu'
                  exact (oks_iff μ vs).1 hok u (List.mem_of_mem_drop (List.mem_of_mem_take hu'))
              · cases h
          · cases h
        · cases h
      · cases h
    · cases h
  · rename_i t x i
    have hx := ht.ev x
    have hi := ht.ev i
    split at h
    · rename_i p q n c z k j esz eb ez ei hv hj hk
      rw [hv] at hx
      rw [hj] at hi
      obtain ⟨e, inf, hu, hinf, rfl, _⟩ := ty_slice hk
      obtain ⟨hn, l, hl, hle⟩ := by simpa [Ok] using hx.2
      split at h
      · rename_i hb
        cases h
        refine ⟨fun w => ?_, by simp [Ok, hl]⟩
        simp [execOp, ← hx.1, ← hi.1, conc, loc_some hl, Instr.indexAt, asIntOf, run_underlying hu, hb, run_sizeOf hinf, loc_add hl]
      · cases h
    · rename_i p q k j n esz hv hj hk
      rw [hv] at hx
      rw [hj] at hi
      obtain ⟨e, inf, hu, hinf, rfl⟩ := ty_array hk
      obtain ⟨l, hl⟩ := by simpa [Ok] using hx.2
      split at h
      · rename_i hb
        cases h
        refine ⟨fun w => ?_, by simp [Ok, hl]⟩
        simp [execOp, ← hx.1, ← hi.1, conc, loc_some hl, Instr.indexAt, asIntOf, run_underlying hu, Instr.sureAddr, hb, run_sizeOf hinf, loc_add hl]
      · cases h
    · rename_i bb o kk j n esz hv hj hk
      rw [hv] at hx
      rw [hj] at hi
      obtain ⟨e, inf, hu, hinf, rfl⟩ := ty_array hk
      split at h
      · rename_i hb
        cases h
        refine ⟨fun w => ?_, by simp [Ok]⟩
        simp [execOp, ← hx.1, ← hi.1, conc, Instr.indexAt, asIntOf, run_underlying hu, Instr.sureAddr, hb, run_sizeOf hinf, Addr.add]
      · cases h
    · cases h
  · rename_i t x i
    have hx := ht.ev x
    have hi := ht.ev i
    split at h
    · rename_i s k j hv hj hk
      rw [hv] at hx
      rw [hj] at hi
      split at h
      · rename_i h0
        simp only [Option.map_eq_some_iff] at h
        obtain ⟨b, hb, rfl⟩ := h
        refine ⟨fun w => ?_, by simp [Ok]⟩
        simp [execOp, Instr.index, ← hx.1, ← hi.1, conc, asIntOf, run_underlying (ty_string hk), h0, hb]
      · cases h
    · cases h
  · rename_i t x l h'
    have hx := ht.ev x
    split at h
    · rename_i esz eb ez ei hk
      obtain ⟨e, inf, hu, hinf, rfl, _⟩ := ty_slice hk
      unfold sliceV at h
      split at h
      · rename_i p q n c z hv
        rw [hv] at hx
        split at h
        · rename_i hz
          subst hz
          obtain ⟨hn, lo, hlo, hle⟩ := by simpa [Ok] using hx.2
          have hev : a.eval x = .slice (some ⟨lo.b, lo.off + q, none⟩) n c := by rw [← hx.1]; simp [conc, loc_some hlo]
          have hoff : ∀ i : Nat, i ≤ c → (if c = i then q else q + i * inf.size) + (c - i) * inf.size ≤ lo.ext := by
            intro i hi
            split
            · rename_i he; subst he; simp; omega
            · have : i * inf.size + (c - i) * inf.size = c * inf.size := by rw [← Nat.add_mul]; congr 1; omega
              omega
          have hadd : ∀ i : Nat, (if c = i then some ⟨lo.b, lo.off + q, none⟩ else some ((⟨lo.b, lo.off + q, none⟩ : Addr).add (i * inf.size))) = loc μ p (if c = i then q else q + i * inf.size) := by
            intro i
            split
            · rw [loc_some hlo]
            · rw [loc_some hlo, loc_add hlo]
          have hrun : ∀ w, (execOp a.eval ⟨dst, .slice t x l h' none, typ, pos, aft, grd⟩).run P w = ((Instr.sliceBounds true n c (l.map a.eval) (h'.map a.eval) none).run P w).andThen fun r w => .ok (.value (.slice (if r.2.2 = r.1 then some ⟨lo.b, lo.off + q, none⟩ else some ((⟨lo.b, lo.off + q, none⟩ : Addr).add (r.1 * inf.size))) (r.2.1 - r.1) (r.2.2 - r.1))) w := by
            intro w
            simp only [execOp, Instr.sliceAt, hev, Sem.run_bind, run_underlying hu, Result.andThen_ok, Instr.slice, Option.map_none]
            cases (Instr.sliceBounds true n c (l.map a.eval) (h'.map a.eval) none).run P w with
            | ok r w' => simp [run_sizeOf hinf]
            | halt e w' => rfl
          split at h
          · rename_i hh hl
            cases h
            simp only [Option.map_eq_none_iff] at hh hl
            subst hh; subst hl
            rw [hv]
            refine ⟨fun w => ?_, hx.2⟩
            rw [hrun w]
            have := hadd 0
            simp only [Nat.zero_mul, Nat.add_zero] at this
            simp [Instr.sliceBounds, conc, loc_some hlo, Addr.add]
          · rename_i k i hh hl
            simp only [Option.map_eq_none_iff] at hh
            simp only [Option.map_eq_some_iff] at hl
            obtain ⟨xl, rfl, hxl⟩ := hl
            subst hh
            split at h
            · rename_i hb
              cases h
              have hl1 : a.eval xl = .int k i := by rw [← (ht.ev xl).1, hxl]; simp [conc]
              refine ⟨fun w => ?_, by simp only [Ok]; exact ⟨by omega, lo, hlo, hoff i.toNat (by omega)⟩⟩
              rw [hrun w]
              simp [Instr.sliceBounds, hl1, run_sliceBound hb, conc, hadd]
            · cases h
          · rename_i k j hh hl
            simp only [Option.map_eq_none_iff] at hl
            simp only [Option.map_eq_some_iff] at hh
            obtain ⟨xh, rfl, hxh⟩ := hh
            subst hl
            split at h
            · rename_i hb
              cases h
              have hl1 : a.eval xh = .int k j := by rw [← (ht.ev xh).1, hxh]; simp [conc]
              refine ⟨fun w => ?_, by simp only [Ok]; exact ⟨by omega, lo, hlo, by omega⟩⟩
              rw [hrun w]
              have hb' : 0 ≤ j ∧ j ≤ (c : Int) := by omega
              simp [Instr.sliceBounds, hl1, run_sliceBound hb', conc, loc_some hlo, Addr.add]
            · cases h
          · rename_i k j k' i hh hl
            simp only [Option.map_eq_some_iff] at hh hl
            obtain ⟨xh, rfl, hxh⟩ := hh
            obtain ⟨xl, rfl, hxl⟩ := hl
            split at h
            · rename_i hb
              cases h
              have hl1 : a.eval xh = .int k j := by rw [← (ht.ev xh).1, hxh]; simp [conc]
              have hl2 : a.eval xl = .int k' i := by rw [← (ht.ev xl).1, hxl]; simp [conc]
              refine ⟨fun w => ?_, by simp only [Ok]; exact ⟨by omega, lo, hlo, hoff i.toNat (by omega)⟩⟩
              rw [hrun w]
              have hb' : 0 ≤ j ∧ j ≤ (c : Int) := by omega
              have hb2 : 0 ≤ i ∧ i ≤ ((j.toNat : Nat) : Int) := by omega
              simp [Instr.sliceBounds, hl1, hl2, run_sliceBound hb', run_sliceBound hb2, conc, hadd]
            · cases h
          · cases h
        · cases h
      · cases h
    · cases h
  · rename_i t x l h' m'
    have hx := ht.ev x
    have hm := ht.ev m'
    split at h
    · rename_i esz eb ez ei hk
      obtain ⟨e, inf, hu, hinf, rfl, _⟩ := ty_slice hk
      unfold slice3V at h
      split at h
      · rename_i p q n c z kj j kk k' hv hh hmv
        rw [hv] at hx
        rw [hmv] at hm
        simp only [Option.map_eq_some_iff] at hh
        obtain ⟨xh, rfl, hxh⟩ := hh
        have hj1 : a.eval xh = .int kj j := by rw [← (ht.ev xh).1, hxh]; simp only [conc]
        have hk1 : a.eval m' = .int kk k' := by rw [← hm.1]; simp only [conc]
        split at h
        · rename_i hz
          subst hz
          obtain ⟨hn, lo, hlo, hle⟩ := by simpa [Ok] using hx.2
          have hev : a.eval x = .slice (some ⟨lo.b, lo.off + q, none⟩) n c := by rw [← hx.1]; simp [conc, loc_some hlo]
          have hrun : ∀ w, (execOp a.eval ⟨dst, .slice t x l (some xh) (some m'), typ, pos, aft, grd⟩).run P w = ((Instr.sliceBounds true n c (l.map a.eval) (some (a.eval xh)) (some (a.eval m'))).run P w).andThen fun r w => .ok (.value (.slice (if r.2.2 = r.1 then some ⟨lo.b, lo.off + q, none⟩ else some ((⟨lo.b, lo.off + q, none⟩ : Addr).add (r.1 * inf.size))) (r.2.1 - r.1) (r.2.2 - r.1))) w := by
            intro w
            simp only [execOp, Instr.sliceAt, hev, Sem.run_bind, run_underlying hu, Result.andThen_ok, Instr.slice, Option.map_some]
            cases (Instr.sliceBounds true n c (l.map a.eval) (some (a.eval xh)) (some (a.eval m'))).run P w with
            | ok r w' => simp [run_sizeOf hinf]
            | halt e w' => rfl
          split at h
          · rename_i hl
            split at h
            · rename_i hb
              cases h
              simp only [Option.map_eq_none_iff] at hl
              subst hl
              have hb1 : 0 ≤ k' ∧ k' ≤ (c : Int) := by omega
              have hb2 : 0 ≤ j ∧ j ≤ ((k'.toNat : Nat) : Int) := by omega
              have hsz : k'.toNat * inf.size ≤ c * inf.size := Nat.mul_le_mul_right _ (by omega)
              refine ⟨fun w => ?_, by simp only [Ok]; exact ⟨by omega, lo, hlo, by omega⟩⟩
              rw [hrun w, hj1, hk1]
              simp [Instr.sliceBounds, run_sliceBound hb1, run_sliceBound hb2, conc, loc_some hlo, Addr.add]
            · cases h
          · rename_i ki i hl
            simp only [Option.map_eq_some_iff] at hl
            obtain ⟨xl, rfl, hxl⟩ := hl
            have hl1 : a.eval xl = .int ki i := by rw [← (ht.ev xl).1, hxl]; simp only [conc]
            split at h
            · rename_i hb
              cases h
              have hb1 : 0 ≤ k' ∧ k' ≤ (c : Int) := by omega
              have hb2 : 0 ≤ j ∧ j ≤ ((k'.toNat : Nat) : Int) := by omega
              have hb3 : 0 ≤ i ∧ i ≤ ((j.toNat : Nat) : Int) := by omega
              have hadd : (if k'.toNat = i.toNat then some ⟨lo.b, lo.off + q, none⟩ else some ((⟨lo.b, lo.off + q, none⟩ : Addr).add (i.toNat * inf.size))) = loc μ p (if k'.toNat = i.toNat then q else q + i.toNat * inf.size) := by
                split
                · rw [loc_some hlo]
                · rw [loc_some hlo, loc_add hlo]
              have hoff : (if k'.toNat = i.toNat then q else q + i.toNat * inf.size) + (k'.toNat - i.toNat) * inf.size ≤ lo.ext := by
                have h2 : k'.toNat * inf.size ≤ c * inf.size := Nat.mul_le_mul_right _ (by omega)
                split
                · rename_i he; rw [he]; simp; omega
                · have : i.toNat * inf.size + (k'.toNat - i.toNat) * inf.size = k'.toNat * inf.size := by rw [← Nat.add_mul]; congr 1; omega
                  omega
              refine ⟨fun w => ?_, by simp only [Ok]; exact ⟨by omega, lo, hlo, hoff⟩⟩
              rw [hrun w, hj1, hk1]
              simp [Instr.sliceBounds, hl1, run_sliceBound hb1, run_sliceBound hb2, run_sliceBound hb3, conc, hadd]
            · cases h
          · cases h
        · cases h
      · cases h
    · cases h
  · rename_i f x y
    cases h
    have h1 := ht.evs x
    have h2 := ht.evs y
    exact ⟨fun w => by simp [execOp, Instr.makeFunc, conc, h1.1, h2.1], by simp [Ok, h1.2, h2.2]⟩
  · rename_i b args ats
    have hargs := ht.evs args
    have hget : ∀ (j : Nat) (x : Operand), args[j]? = some x → (args.map a.eval)[j]? = some (conc μ (ev ρ x)) := by
      intro j x hx
      simp [hx, (ht.ev x).1]
    split at h
    · split at h
      · rename_i t x hat hxa
        have hx := ht.ev x
        have hx0 := hget 0 x hxa
        unfold lenV at h
        have hrun : ∀ w, (execOp a.eval ⟨dst, .call { callee := .builtin .len, args, argTypes := ats }, typ, pos, aft, grd⟩).run P w = ((Builtin.len_ ats typ (args.map a.eval)).run P w).andThen fun v w => .ok (.value v) w := by
          intro w
          simp [execOp, resolve, invoke, builtin]
        split at h
        · rename_i hv hk
          cases h
          rw [hv] at hx0
          obtain ⟨e, inf, hu, _⟩ := ty_slice hk
          refine ⟨fun w => ?_, by simp [Ok]⟩
          rw [hrun w]
          simp [Builtin.len_, hat, hx0, run_underlying hu, conc, goInt]
        · rename_i hv hk
          cases h
          rw [hv] at hx0
          obtain ⟨e, inf, hu, _⟩ := ty_slice hk
          refine ⟨fun w => ?_, by simp [Ok]⟩
          rw [hrun w]
          simp [Builtin.len_, hat, hx0, run_underlying hu, conc, goInt]
        · rename_i hv hk
          cases h
          rw [hv] at hx0
          refine ⟨fun w => ?_, by simp [Ok]⟩
          rw [hrun w]
          simp [Builtin.len_, hat, hx0, run_underlying (ty_string hk), conc, goInt]
        · rename_i hk
          cases h
          obtain ⟨e, inf, hu, _⟩ := ty_array hk
          refine ⟨fun w => ?_, by simp [Ok]⟩
          rw [hrun w]
          simp [Builtin.len_, hat, hx0, run_underlying hu, conc, goInt]
        · cases h
      · cases h
    · split at h
      · rename_i x xs hxs
        rw [hxs] at hargs
        have hok : Ok μ x ∧ Oks μ xs := by simpa [Oks] using hargs.2
        have hf := fun w => foldV_sound (P := P) (fun x y z h μ w => maxM_sound x y z h μ w) xs x v h μ w hok.1
        refine ⟨fun w => ?_, (hf default).2⟩
        have : (Builtin.max_ ats typ (args.map a.eval)).run P w = .ok (conc μ v) w := by
          rw [hargs.1]
          simp only [Builtin.max_, concs]
          exact (hf w).1
        simp [execOp, resolve, invoke, builtin, this]
      · cases h
    · split at h
      · rename_i x xs hxs
        rw [hxs] at hargs
        have hok : Ok μ x ∧ Oks μ xs := by simpa [Oks] using hargs.2
        have hf := fun w => foldV_sound (P := P) (fun x y z h μ w => minM_sound x y z h μ w) xs x v h μ w hok.1
        refine ⟨fun w => ?_, (hf default).2⟩
        have : (Builtin.min_ ats typ (args.map a.eval)).run P w = .ok (conc μ v) w := by
          rw [hargs.1]
          simp only [Builtin.min_, concs]
          exact (hf w).1
        simp [execOp, resolve, invoke, builtin, this]
      · cases h
    · cases h
  · cases h

end Go.Proofs.YtcikcinkjbbnhaaDoor.M

/- The small machine, sixth part: loads, new objects, stores. -/
set_option linter.unusedSimpArgs false
set_option linter.unusedVariables false
namespace Go.Proofs.YtcikcinkjbbnhaaDoor.M
open Go

/-! ### Loads -/

def cellsAt (H : MH) (p o n : Nat) : Option (List MV) :=
  (hget H p).bind fun ob => if o + n ≤ ob.cells.length then some ((ob.cells.drop o).take n) else none

def loadV (P : Program) (t : TypeId) (x : MV) (H : MH) : Option MV :=
  match x with
  | .ptr p o =>
    if (ty P t).known then
      if (ty P t).agg then
        match (ty P t).sz with
        | some n => (cellsAt H p o n).map .agg
        | none => none
      else (hget H p).bind fun ob => ob.cells[o]?
    else none
  | .lit (.pointer (some ⟨b, o, none⟩)) => if (ty P t).known then if (ty P t).agg then none else (tabT b o).map .lit else none
  | _ => none

theorem Rel.cell {μ H w} (h : Rel μ H w) {p : Nat} {l : Loc} {ob : MO} (hl : μ p = some l) (ho : hget H p = some ob) {i : Nat} {v : MV} (hv : ob.cells[i]? = some v) :
    Ok μ v ∧ w.cell? ⟨l.b, l.off + i, none⟩ = some (conc μ v) := by
  obtain ⟨cs, t, fz, h1, h2, h3, h5, h6⟩ := h.obj p l ob hl ho
  obtain ⟨h7, h8⟩ := h6 i v hv
  exact ⟨h7, by simp [World.cell?, h1, h8]⟩

theorem Rel.cells {μ H w} (h : Rel μ H w) {P : Program} {p o n : Nat} {l : Loc} {vs : List MV} (hl : μ p = some l) (hc : cellsAt H p o n = some vs) :
    Oks μ vs ∧ (loadCells ⟨l.b, l.off + o, none⟩ n).run P w = .ok (concs μ vs).toArray w ∧ vs.length = n := by
  unfold cellsAt at hc
  simp only [Option.bind_eq_some_iff] at hc
  obtain ⟨ob, hob, hc⟩ := hc
  split at hc
  · rename_i hle
    cases hc
    have hlen : ((ob.cells.drop o).take n).length = n := by simp; omega
    have hcell : ∀ j v, ((ob.cells.drop o).take n)[j]? = some v → Ok μ v ∧ w.cell? ⟨l.b, l.off + o + j, none⟩ = some (conc μ v) := by
      intro j v hv
      have hj : j < n := by
        have := (List.getElem?_eq_some_iff.1 hv).1
        omega
      rw [List.getElem?_take_of_lt hj, List.getElem?_drop] at hv
      have := h.cell hl hob hv
      rw [Nat.add_assoc]
      exact this
    refine ⟨?_, ?_, hlen⟩
    · rw [oks_iff]
      intro v hv
      obtain ⟨j, hj⟩ := List.getElem?_of_mem hv
      exact (hcell j v hj).1
    · have := run_loadCells_list (P := P) w ⟨l.b, l.off + o, none⟩ (concs μ ((ob.cells.drop o).take n)) (fun j v hv => by
        rw [concs_map, List.getElem?_map, Option.map_eq_some_iff] at hv
        obtain ⟨u, hu, rfl⟩ := hv
        rw [Addr.add_lit]
        exact (hcell j u hu).2)
      rw [show (concs μ ((ob.cells.drop o).take n)).length = n by rw [concs_map, List.length_map]; exact hlen] at this
      exact this
  · cases hc

theorem load_sound {P : Program} {t : TypeId} {x : Operand} {H : MH} {ρ : Env} {v : MV} (h : loadV P t (ev ρ x) H = some v) {μ : Mu} {a : Act} {w : World} (ht : Tm μ ρ a) (hr : Rel μ H w) (hb : TabIn μ H w)
    (o : Oper) (ho : o.op = .load t x) : (execOp a.eval o).run P w = .ok (.value (conc μ v)) w ∧ Ok μ v := by
  obtain ⟨dst, op, typ, pos, aft, grd⟩ := o
  cases ho
  have hx := ht.ev x
  unfold loadV at h
  split at h
  · rename_i p q hv
    rw [hv] at hx
    obtain ⟨l, hl⟩ := by simpa [Ok] using hx.2
    have he : a.eval x = .pointer (some ⟨l.b, l.off + q, none⟩) := by rw [← hx.1]; simp [conc, loc_some hl]
    split at h
    · rename_i hkn
      have hia := run_isAgg hkn w
      split at h
      · rename_i hag
        rw [hag] at hia
        split at h
        · rename_i n hn
          simp only [Option.map_eq_some_iff] at h
          obtain ⟨vs, hvs, rfl⟩ := h
          have hc := hr.cells (P := P) hl hvs
          have hsz : ∃ i, P.info? t = some i ∧ i.size = n := by
            have : (P.info? t).map (·.size) = some n := hn
            simpa using this
          obtain ⟨inf, hinf, rfl⟩ := hsz
          exact ⟨by simp [execOp, Instr.loadAt, he, Instr.sureAddr, loadVar, hia, run_sizeOf hinf, hc.2.1, conc], by simpa [Ok] using hc.1⟩
        · cases h
      · rename_i hag
        simp only [Bool.not_eq_true] at hag
        rw [hag] at hia
        simp only [Option.bind_eq_some_iff] at h
        obtain ⟨ob, hob, hc⟩ := h
        have := hr.cell hl hob hc
        exact ⟨by simp [execOp, Instr.loadAt, he, Instr.sureAddr, loadVar, hia, this.2], this.1⟩
    · cases h
  · rename_i bb o hv
    rw [hv] at hx
    have he : a.eval x = .pointer (some ⟨bb, o, none⟩) := by rw [← hx.1]; simp [conc]
    split at h
    · rename_i hkn
      have hia := run_isAgg hkn w
      split at h
      · cases h
      · rename_i hag
        simp only [Bool.not_eq_true] at hag
        rw [hag] at hia
        simp only [Option.map_eq_some_iff] at h
        obtain ⟨u, hu, rfl⟩ := h
        have := hb.cell bb o u hu
        exact ⟨by simp [execOp, Instr.loadAt, he, Instr.sureAddr, loadVar, hia, this, conc], by simp [Ok]⟩
    · cases h
  · cases h

/-! ### New objects -/

/-- What a new object holds, and the value that leads to it. -/
def allocV (P : Program) (o : Op) (ρ : Env) : Option (List MV × (Nat → MV)) :=
  match o with
  | .alloc e => (ty P e).zero.map fun z => (z.map .lit, fun p => .ptr p 0)
  | .box e x => some (cellsM (ev ρ x), fun p => .ptr p 0)
  | .buildSlice t n parts => match (ty P t).k with
    | .slice esz _ (some z) _ =>
      if n * esz ≤ 2 ^ 24 ∧ z.length = esz then
        (fillM (fun i => some (i * esz, esz)) ((List.range (n * esz)).map fun i => .lit (z.getD (i % z.length) undef)) (parts.toList.map fun x => (x.1, ev ρ x.2))).bind fun cs =>
          if cs.length = n * esz then some (cs, fun p => .slice p 0 n n esz) else none
      else none
    | _ => none
  | .makeSlice t l c => match (ty P t).k, ev ρ l, ev ρ c with
    | .slice esz eb (some z) _, .lit (.int .i64 n), .lit (.int .i64 m) =>
      if 0 ≤ n ∧ n ≤ m ∧ eb * m ≤ 2 ^ 48 ∧ m < 2 ^ 63 ∧ z.length = esz then some ((List.range (m.toNat * esz)).map fun i => .lit (z.getD (i % z.length) undef), fun p => .slice p 0 n.toNat m.toNat esz) else none
    | _, _, _ => none
  | _ => none

theorem zmap0 {k : Nat} (h : k = 0) (z : List Value) (f : Nat → Value) : (Array.range k).map f = ((List.range k).map fun i => z.getD (i % z.length) undef).toArray := by
  subst h; simp
theorem zmap1 {k : Nat} {z : List Value} {zz : Array Value} (hz : zz = z.toArray) (hpos : 0 < z.length) : (Array.range k).map (zz[· % zz.size]!) = ((List.range k).map fun i => z.getD (i % z.length) undef).toArray := by
  subst hz
  apply Array.ext'
  simp only [Array.toList_map, Array.toList_range]
  refine List.map_congr_left fun i hi => ?_
  have hlt : i % z.length < z.length := Nat.mod_lt _ hpos
  simp [List.getD, hlt]

/-- The real operation makes a block of these cells. -/
theorem alloc_sound {P : Program} {o : Oper} {ρ : Env} {cs : List MV} {f : Nat → MV} (h : allocV P o.op ρ = some (cs, f)) {μ : Mu} {a : Act} (ht : Tm μ ρ a) (w : World) :
    Oks μ cs ∧ ∃ v t, (execOp a.eval o).run P w = .ok (.value v) { w with heap := w.heap.push (.cells (concs μ cs).toArray t) } ∧
      ∀ (μ' : Mu) p, μ' p = some ⟨w.heap.size, 0, cs.length⟩ → conc μ' (f p) = v ∧ Ok μ' (f p) := by
  obtain ⟨dst, op, typ, pos, aft, grd⟩ := o
  simp only at h
  unfold allocV at h
  have hptr : ∀ (μ' : Mu) (p : Nat), μ' p = some ⟨w.heap.size, 0, cs.length⟩ → conc μ' (.ptr p 0) = .pointer (some ⟨w.heap.size, 0, none⟩) ∧ Ok μ' (.ptr p 0) := fun μ' p hp => by
    simp [conc, loc_some hp, Ok, hp]
  split at h
  · rename_i e
    simp only [Option.map_eq_some_iff, Prod.mk.injEq] at h
    obtain ⟨z, hz, rfl, rfl⟩ := h
    obtain ⟨zv, hzv, hzc⟩ := run_zeroValue hz w
    refine ⟨ok_lits μ z, .pointer (some ⟨w.heap.size, 0, none⟩), e, ?_, hptr⟩
    simp [execOp, Instr.alloc, hzv, newVar, newRow, hzc, conc_lits]
  · rename_i e x
    simp only [Option.some.injEq, Prod.mk.injEq] at h
    obtain ⟨rfl, rfl⟩ := h
    have hx := ht.ev x
    refine ⟨ok_cells hx.2, .pointer (some ⟨w.heap.size, 0, none⟩), e, ?_, hptr⟩
    simp [execOp, Instr.box, newVar, newRow, ← hx.1, cells_conc]
  · rename_i t n parts
    split at h
    · rename_i esz eb z ei hk
      split at h
      · rename_i hle
        simp only [Option.bind_eq_some_iff] at h
        obtain ⟨cs', hcs, h⟩ := h
        split at h
        · rename_i hlen
          simp only [Option.some.injEq, Prod.mk.injEq] at h
          obtain ⟨rfl, rfl⟩ := h
          obtain ⟨e, inf, hu, hinf, rfl, rfl, hz, _⟩ := ty_slice hk
          have hf := fill_conc μ _ _ _ _ hcs
          have hparts : ((parts.map fun (i, x) => (i, a.eval x)).toList) = ((parts.toList.map fun x => (x.1, ev ρ x.2)).map fun x => (x.1, conc μ x.2)) := by
            simp only [Array.toList_map, List.map_map]
            exact List.map_congr_left fun x _ => by simp [(ht.ev x.2).1]
          have hpok : ∀ x ∈ (parts.toList.map fun x => (x.1, ev ρ x.2)), Ok μ x.2 := by
            intro x hx
            simp only [List.mem_map] at hx
            obtain ⟨y, _, rfl⟩ := hx
            exact (ht.ev y.2).2
          have hinit : (concs μ ((List.range (n * inf.size)).map fun i => MV.lit (z.getD (i % z.length) undef))) = (List.range (n * inf.size)).map fun i => z.getD (i % z.length) undef := by
            simp [concs_map, conc]
          rw [hinit] at hf
          refine ⟨hf.2 hpok (by rw [oks_iff]; intro v hv; simp only [List.mem_map] at hv; obtain ⟨i, _, rfl⟩ := hv; simp [Ok]), .slice (some ⟨w.heap.size, 0, none⟩) n n, e, ?_, fun μ' p hp => ?_⟩
          · obtain ⟨zv, hzv, hzc⟩ := run_zeroValue (P := P) (t := e) (z := z) (by simp [ty, hinf]; simpa using hz.symm) w
            simp only [execOp, Instr.buildSlice, Sem.run_bind, run_underlying hu, run_sizeOf hinf, Result.andThen_ok]
            rw [if_neg (by omega)]
            by_cases h0 : n * inf.size = 0
            · simp only [if_pos h0, Sem.run_bind, Sem.run_pure, Result.andThen_ok, hparts]
              rw [zmap0 h0 z, hf.1]
              simp [newRow]
            · have hpos : 0 < z.length := by
                rw [hle.2]
                exact Nat.pos_of_ne_zero fun h => h0 (by rw [h]; simp)
              simp only [if_neg h0, Sem.run_bind, hzv, Sem.run_pure, Result.andThen_ok, hparts]
              rw [zmap1 hzc hpos, hf.1]
              simp [newRow]
          · refine ⟨by simp [conc, loc_some hp], ?_⟩
            simp only [Ok]
            exact ⟨Nat.le_refl _, _, hp, by simp [hlen]⟩
        · cases h
      · cases h
    · cases h
  · rename_i t l c
    split at h
    · rename_i esz eb z ei n m hk hl hc
      split at h
      · rename_i hcond
        simp only [Option.some.injEq, Prod.mk.injEq] at h
        obtain ⟨rfl, rfl⟩ := h
        obtain ⟨h0, hnm, hbig, h63, hzl⟩ := hcond
        obtain ⟨e, inf, hu, hinf, rfl, rfl, hz, _⟩ := ty_slice hk
        have hl' := (ht.ev l).1
        have hc' := (ht.ev c).1
        rw [hl] at hl'
        rw [hc] at hc'
        refine ⟨by rw [oks_iff]; intro v hv; simp only [List.mem_map] at hv; obtain ⟨i, _, rfl⟩ := hv; simp [Ok], .slice (some ⟨w.heap.size, 0, none⟩) n.toNat m.toNat, e, ?_, fun μ' p hp => ?_⟩
        · obtain ⟨zv, hzv, hzc⟩ := run_zeroValue (P := P) (t := e) (z := z) (by simp [ty, hinf]; simpa using hz.symm) w
          have hwrapA : ∀ x : Int, 0 ≤ x → x < 2 ^ 63 → IntKind.i64.wrap x = x := fun x g1 g2 => by
            have h1 : x % 18446744073709551616 = x := by omega
            have h2 : ¬ (9223372036854775808 ≤ x) := by omega
            simp [IntKind.wrap, IntKind.signed, IntKind.bits, h1, h2]
          have hwrap := hwrapA n h0 (by omega)
          have hwrap2 := hwrapA m (by omega) h63
          have hinit : (concs μ ((List.range (m.toNat * inf.size)).map fun i => MV.lit (z.getD (i % z.length) undef))) = (List.range (m.toNat * inf.size)).map fun i => z.getD (i % z.length) undef := by
            simp [concs_map, conc]
          rw [hinit]
          simp only [execOp, Instr.makeSlice, Sem.run_bind, run_underlying hu, run_typeInfo hinf, Result.andThen_ok, ← hl', ← hc', conc, asInt, asIntOf, Sem.run_pure, hwrap, hwrap2]
          have hbig' : ((inf.bytes : Int) * m > 2 ^ 48) = False := by simp; omega
          have hneg : (n < 0) = False := by simp; omega
          have hneg2 : (m < 0) = False := by simp; omega
          have hgt : (m < n) = False := by simp; omega
          simp only [hneg, hneg2, hgt, hbig', decide_false, Bool.or_self, Int.lt_irrefl, or_self, gt_iff_lt, Bool.false_eq_true, if_false, Sem.run_bind, run_askRoom, Result.andThen_ok, run_sizeOf hinf]
          by_cases h0 : m.toNat * inf.size = 0
          · simp only [if_pos h0, Sem.run_bind, Sem.run_pure, Result.andThen_ok]
            rw [zmap0 h0 z (fun x => (#[] : Array Value)[x % (#[] : Array Value).size]!)]
            simp [newRow]
          · have hpos : 0 < z.length := by
              rw [hzl]
              exact Nat.pos_of_ne_zero fun h => h0 (by rw [h]; simp)
            simp only [if_neg h0, Sem.run_bind, hzv, Sem.run_pure, Result.andThen_ok]
            rw [← zmap1 hzc hpos]
            simp [newRow]
        · refine ⟨by simp [conc, loc_some hp], ?_⟩
          simp only [Ok]
          exact ⟨by omega, _, hp, by simp⟩
      · cases h
    · cases h
  · cases h

end Go.Proofs.YtcikcinkjbbnhaaDoor.M

/- The small machine, seventh part: stores and appends. -/
set_option linter.unusedSimpArgs false
set_option linter.unusedVariables false
namespace Go.Proofs.YtcikcinkjbbnhaaDoor.M
open Go

theorem hget_set_same {H : MH} {p : Nat} (h : p < H.length) (x : Option MO) : hget (H.set p x) p = x := by
  unfold hget; rw [List.getElem?_set_self h]; rfl
theorem hget_set_ne {H : MH} {p q : Nat} (h : p ≠ q) (x : Option MO) : hget (H.set p x) q = hget H q := by
  unfold hget; rw [List.getElem?_set_ne h]

theorem one_conc {μ : Mu} {v : MV} (h : one v = true) : (conc μ v).oneCell' = true := by
  unfold one at h
  split at h <;> first | (cases h; done) | skip
  cases v with
  | lit v => cases v <;> simp_all [conc, Value.oneCell']
  | agg vs => simp_all
  | tup vs => simp_all
  | _ => simp [conc, Value.oneCell']

/-- One cell is written. -/
theorem Rel.store {μ H w} (h : Rel μ H w) {P : Program} {p : Nat} {l : Loc} {ob : MO} (hl : μ p = some l) (ho : hget H p = some ob) (hrw : ob.rw = true) {i : Nat} (hi : i < ob.cells.length)
    {v : MV} (hv : Ok μ v) (h1 : one v = true) :
    ∃ w', (Go.store ⟨l.b, l.off + i, none⟩ (conc μ v)).run P w = .ok () w' ∧ Rel μ (H.set p (some ⟨ob.cells.set i v, true⟩)) w' ∧ Ext μ H w μ (H.set p (some ⟨ob.cells.set i v, true⟩)) w' := by
  obtain ⟨cs, t, fz, hb, hsz, hlen, hfz, hcell⟩ := h.obj p l ob hl ho
  obtain rfl := hfz hrw
  have hc : w.cell? ⟨l.b, l.off + i, none⟩ = some (conc μ (ob.cells[i])) := (h.cell hl ho (List.getElem?_eq_getElem hi)).2
  have hf : w.frozen? ⟨l.b, l.off + i, none⟩ = false := by simp [World.frozen?, hb]
  refine ⟨w.setCell ⟨l.b, l.off + i, none⟩ (conc μ v), ?_, ?_, ?_⟩
  · rw [run_store P w _ _ _ (one_conc h1), hc]
    simp [hf]
  · have hplt := hget_lt ho
    have hheap : ∀ b, (w.setCell ⟨l.b, l.off + i, none⟩ (conc μ v)).heap[b]? = if l.b = b then some (.cells (cs.setIfInBounds (l.off + i) (conc μ v)) t (0, 0)) else w.heap[b]? := by
      intro b
      simp only [World.setCell, Array.getElem?_modify]
      split
      · rename_i he; subst he; simp [hb]
      · rfl
    refine ⟨fun q l' hq => by rw [List.length_set]; exact h.bound q l' hq, fun q l' o' hq ho' => ?_, fun q r l1 l2 o1 o2 hq hr h1' h2' hrw' hne => ?_⟩
    · by_cases hpq : p = q
      · subst hpq
        rw [hget_set_same hplt] at ho'
        cases ho'
        rw [hl] at hq
        cases hq
        refine ⟨cs.setIfInBounds (l.off + i) (conc μ v), t, (0, 0), by rw [hheap]; simp, by simpa using hsz, by simpa using hlen, fun _ => rfl, fun j u hu => ?_⟩
        rw [List.getElem?_set] at hu
        split at hu
        · rename_i hij
          subst hij
          simp only [hi, if_true, Option.some.injEq] at hu
          subst hu
          refine ⟨hv, ?_⟩
          rw [Array.getElem?_setIfInBounds_self_of_lt (by omega)]
        · rename_i hij
          obtain ⟨hu1, hu2⟩ := hcell j u hu
          exact ⟨hu1, by rw [Array.getElem?_setIfInBounds_ne (by omega)]; exact hu2⟩
      · rw [hget_set_ne hpq] at ho'
        have := h.inj p q l l' ob o' hl hq ho ho' hrw hpq
        exact (h.obj q l' o' hq ho').mono (Mle.refl μ) (by rw [hheap, if_neg this])
    · by_cases hpq : p = q
      · subst hpq
        rw [hget_set_ne hne] at h2'
        rw [hl] at hq
        cases hq
        exact h.inj p r l l2 ob o2 hl hr ho h2' hrw hne
      · rw [hget_set_ne hpq] at h1'
        by_cases hpr : p = r
        · subst hpr
          rw [hl] at hr
          cases hr
          exact h.inj q p l1 l o1 ob hq hl h1' ho hrw' hne
        · rw [hget_set_ne hpr] at h2'
          exact h.inj q r l1 l2 o1 o2 hq hr h1' h2' hrw' hne
  · refine ⟨Mle.refl μ, fun _ _ h => .inl h, by simp, by simp [World.setCell], fun b hb' hlt => ?_, fun b hlt hn => ?_, ⟨rfl, rfl, rfl⟩⟩
    · obtain ⟨q, l', o, hq, hoq, hrw', hbb⟩ := hb'
      by_cases hpq : p = q
      · subst hpq
        rw [hl] at hq
        cases hq
        exact ⟨p, l, ob, hl, ho, hrw, hbb⟩
      · rw [hget_set_ne hpq] at hoq
        exact ⟨q, l', o, hq, hoq, hrw', hbb⟩
    · have : l.b ≠ b := fun he => hn ⟨p, l, ob, hl, ho, hrw, he⟩
      simp [World.setCell, Array.getElem?_modify, this]

def setL : List MV → Nat → List MV → List MV
  | cs, _, [] => cs
  | cs, o, v :: vs => setL (cs.set o v) (o + 1) vs

theorem setL_length : ∀ (vs : List MV) (cs : List MV) (o : Nat), (setL cs o vs).length = cs.length
  | [], _, _ => rfl
  | v :: vs, cs, o => by simp [setL, setL_length vs]

/-- Several cells are written. -/
theorem Rel.stores {P : Program} {μ : Mu} {p : Nat} {l : Loc} (hl : μ p = some l) : ∀ (vs : List MV) (H : MH) (w : World) (o i : Nat) (ob : MO), Rel μ H w → hget H p = some ob → ob.rw = true →
    o + i + vs.length ≤ ob.cells.length → Oks μ vs → vs.all one = true →
    ∃ w', (storeCells ⟨l.b, l.off + o, none⟩ (concs μ vs) i).run P w = .ok () w' ∧ Rel μ (H.set p (some ⟨setL ob.cells (o + i) vs, true⟩)) w' ∧ Ext μ H w μ (H.set p (some ⟨setL ob.cells (o + i) vs, true⟩)) w'
  | [], H, w, o, i, ob, h, ho, hrw, hlen, hok, h1 => by
    have hH : H.set p (some ⟨ob.cells, true⟩) = H := by
      have : ob = ⟨ob.cells, true⟩ := by cases ob; simp_all
      rw [← this]
      unfold hget at ho
      apply List.ext_getElem?
      intro j
      rw [List.getElem?_set]
      split
      · rename_i hj
        subst hj
        split
        · cases hp : H[p]? with
          | none => rw [hp] at ho; simp at ho
          | some x => rw [hp] at ho; simp at ho; rw [ho]
        · rename_i hlt
          simp [List.getElem?_eq_none (Nat.le_of_not_lt hlt)] at ho
      · rfl
    simp only [setL, hH]
    exact ⟨w, by simp [storeCells, concs], h, Ext.refl μ H w⟩
  | v :: vs, H, w, o, i, ob, h, ho, hrw, hlen, hok, h1 => by
    simp only [List.length_cons] at hlen
    have hok' : Ok μ v ∧ Oks μ vs := by simpa [Oks] using hok
    simp only [List.all_cons, Bool.and_eq_true] at h1
    obtain ⟨w1, hs1, hr1, he1⟩ := h.store (P := P) hl ho hrw (i := o + i) (by omega) hok'.1 h1.1
    have hplt := hget_lt ho
    obtain ⟨w2, hs2, hr2, he2⟩ := Rel.stores (P := P) hl vs _ w1 o (i + 1) ⟨ob.cells.set (o + i) v, true⟩ hr1 (hget_set_same hplt _) rfl (by simp; omega) hok'.2 h1.2
    rw [List.set_set] at hr2 he2
    refine ⟨w2, ?_, hr2, he1.trans he2⟩
    have hadd : (⟨l.b, l.off + o, none⟩ : Addr).add i = ⟨l.b, l.off + (o + i), none⟩ := by rw [Addr.add_lit]; simp [Nat.add_assoc]
    simp only [storeCells, concs, Sem.run_bind, hadd, hs1, Result.andThen_ok]
    exact hs2

def storeV (P : Program) (t : TypeId) (x v : MV) (H : MH) : Option MH :=
  match x with
  | .ptr p o => match hget H p, (ty P t).sz with
    | some ob, some n =>
      if ob.rw = true ∧ (cellsM v).length = n ∧ (cellsM v).all one = true ∧ o + n ≤ ob.cells.length then some (H.set p (some ⟨setL ob.cells o (cellsM v), true⟩)) else none
    | _, _ => none
  | _ => none

theorem store_sound {P : Program} {t : TypeId} {x y : Operand} {H H' : MH} {ρ : Env} (h : storeV P t (ev ρ x) (ev ρ y) H = some H') {μ : Mu} {a : Act} {w : World} (ht : Tm μ ρ a) (hr : Rel μ H w)
    (o : Oper) (ho : o.op = .store t x y) : ∃ w', (execOp a.eval o).run P w = .ok .skip w' ∧ Rel μ H' w' ∧ Ext μ H w μ H' w' := by
  obtain ⟨dst, op, typ, pos, aft, grd⟩ := o
  cases ho
  have hx := ht.ev x
  have hy := ht.ev y
  unfold storeV at h
  split at h
  · rename_i p q hv
    rw [hv] at hx
    obtain ⟨l, hl⟩ := by simpa [Ok] using hx.2
    split at h
    · rename_i ob n hob hn
      split at h
      · rename_i hc
        cases h
        obtain ⟨hrw, hlen, hone, hle⟩ := hc
        have hsz : ∃ i, P.info? t = some i ∧ i.size = n := by
          have : (P.info? t).map (·.size) = some n := hn
          simpa using this
        obtain ⟨inf, hinf, rfl⟩ := hsz
        obtain ⟨w', hs, hr', he⟩ := Rel.stores (P := P) hl (cellsM (ev ρ y)) H w q 0 ob hr hob hrw (by omega) (ok_cells hy.2) hone
        refine ⟨w', ?_, hr', he⟩
        have hxe : a.eval x = .pointer (some ⟨l.b, l.off + q, none⟩) := by rw [← hx.1]; simp [conc, loc_some hl]
        have hce : (a.eval y).cells = (concs μ (cellsM (ev ρ y))).toArray := by rw [← hy.1, cells_conc]
        have hsl : (concs μ (cellsM (ev ρ y))).length = inf.size := by rw [concs_map, List.length_map]; exact hlen
        simp [execOp, Instr.storeAt, hxe, Instr.sureAddr, storeVar, run_sizeOf hinf, hce, hsl, hs]
      · cases h
    · cases h
  · cases h

end Go.Proofs.YtcikcinkjbbnhaaDoor.M

/- The small machine, eighth part: append. -/
set_option linter.unusedSimpArgs false
set_option linter.unusedVariables false
namespace Go.Proofs.YtcikcinkjbbnhaaDoor.M
open Go

/-- What is appended: the cells of a slice. -/
def tailV (esz : Nat) (x : MV) (H : MH) : Option (List MV × Nat) :=
  match x with
  | .lit (.slice _ 0 0) => some ([], 0)
  | .slice p o n _ z => if z = esz then (cellsAt H p o (n * esz)).map fun cs => (cs, n) else none
  | .lit (.string s) => if esz = 1 then some (s.data.toList.map fun b => .lit (.int .u8 b.toNat), s.size) else none
  | _ => none

/-- An append: what the new object holds, how long it is in elements, and the memory behind it (the new object is the last one); of nothing to nothing: none. -/
def appV0 (P : Program) (ats : Array TypeId) (s x : MV) (H : MH) : Option (Option (List MV × Nat × Nat) × MH) :=
  match ats[0]?, ats[1]? with
  | some t, some t1 =>
    match (ty P t).k, (ty P t1).k with
    | .slice esz eb (some z) _, .slice _ _ _ _ =>
      match tailV esz x H with
      | some (new, m) =>
        if 0 < esz ∧ 0 < eb ∧ z.length = esz ∧ new.all one = true ∧ eb ≤ 2 ^ 10 then
          match s with
          | .lit (.slice none 0 0) => if m = 0 then some (none, H) else if m ≤ 2 ^ 36 then some (some (new, m, esz), H ++ [some ⟨new, true⟩]) else none
          | .slice p o n _ z' =>
            match hget H p with
            | some ob => if z' = esz ∧ ob.rw = true ∧ o + n * esz = ob.cells.length ∧ n + m ≤ 2 ^ 36 then some (some (ob.cells.drop o ++ new, n + m, esz), H.set p none ++ [some ⟨ob.cells.drop o ++ new, true⟩]) else none
            | none => none
          | _ => none
        else none
      | none => none
    | _, _ => none
  | _, _ => none

/-- What stands behind a slice is let go ahead of an append to it. -/
def truncH (s : MV) (H : MH) : MH := match s with
  | .slice p o n _ z => match hget H p with
    | some ob => H.set p (some ⟨ob.cells.take (o + n * z), ob.rw⟩)
    | none => H
  | _ => H
def appV (P : Program) (ats : Array TypeId) (s x : MV) (H : MH) : Option (Option (List MV × Nat × Nat) × MH) := match appV0 P ats s x H with
  | some r => some r
  | none => appV0 P ats s x (truncH s H)
theorem appV_of {P : Program} {ats : Array TypeId} {s x : MV} {H : MH} {r} (h : appV0 P ats s x H = some r) : appV P ats s x H = some r := by unfold appV; rw [h]
theorem trunc_len {s : MV} {H : MH} : (truncH s H).length = H.length := by
  unfold truncH
  split
  · split
    · rw [List.length_set]
    · rfl
  · rfl

theorem nextcap_le (need c : Nat) (h : c < need) (hn : need ≤ 2 ^ 36) : Builtin.nextslicecap need c ≤ 2 ^ 38 := by
  unfold Builtin.nextslicecap
  split
  · omega
  · split
    · omega
    · have : ∀ r c, c ≤ 2 ^ 37 → Builtin.growBy need r c ≤ 2 ^ 38 := by
        intro r
        induction r with
        | zero => intro c hc; unfold Builtin.growBy; omega
        | succ r ih =>
          intro c hc
          unfold Builtin.growBy
          split
          · omega
          · exact ih _ (by omega)
      exact this 4 c (by omega)

theorem run_tail {P : Program} {esz : Nat} {x : MV} {H : MH} {new : List MV} {m : Nat} (h : tailV esz x H = some (new, m)) {μ : Mu} {w : World} (hx : Ok μ x) (hr : Rel μ H w) :
    Oks μ new ∧ new.length = m * esz ∧ (Builtin.lenOf (conc μ x)).run P w = .ok m w ∧ (Builtin.firstCells esz m (conc μ x)).run P w = .ok (concs μ new).toArray w := by
  unfold tailV at h
  split at h
  · rename_i q
    cases h
    cases q <;> simp [Oks, concs, conc, Builtin.lenOf, Builtin.firstCells, loadCells, loadCellsFrom]
  · rename_i p o n c z
    split at h
    · rename_i hz
      subst hz
      simp only [Option.map_eq_some_iff, Prod.mk.injEq] at h
      obtain ⟨cs, hcs, rfl, rfl⟩ := h
      obtain ⟨hn, l, hl, hle⟩ := by simpa [Ok] using hx
      obtain ⟨h1, h2, h3⟩ := hr.cells (P := P) hl hcs
      exact ⟨h1, h3, by simp [conc, Builtin.lenOf], by simp [conc, loc_some hl, Builtin.firstCells, h2]⟩
    · cases h
  · rename_i s
    split at h
    · rename_i hz
      subst hz
      cases h
      refine ⟨by rw [oks_iff]; intro v hv; simp only [List.mem_map] at hv; obtain ⟨i, _, rfl⟩ := hv; simp [Ok], by simp, by simp [conc, Builtin.lenOf], ?_⟩
      simp only [conc, Builtin.firstCells, concs_map, List.map_map, Sem.run_pure]
      congr 1
      apply Array.ext'
      simp [Function.comp_def, conc]
    · cases h
  · cases h

theorem zeroCells_length (z : Array Value) (n : Nat) : (Builtin.zeroCells z n).size = n * z.size := by simp [Builtin.zeroCells]

/-- A new block that is longer than the object that it bears. -/
theorem Rel.bindMore {μ : Mu} {H : MH} {w : World} (h : Rel μ H w) {p : Nat} {o : MO} (hp : μ p = none) (ho : hget H p = some o)
    {cs : Array Value} {t : TypeId} {rest : List Value} (hcs : cs = (concs μ o.cells ++ rest).toArray) (hok : Oks μ o.cells) {w' : World} (hw : w'.heap = w.heap.push (.cells cs t (0, 0))) :
    Rel (bind1 μ p ⟨w.heap.size, 0, o.cells.length + rest.length⟩) H w' := by
  have hle : Mle μ (bind1 μ p ⟨w.heap.size, 0, o.cells.length + rest.length⟩) := bind1_le hp
  have hold : ∀ b, b < w.heap.size → w'.heap[b]? = w.heap[b]? := fun b hb => by
    rw [hw, Array.getElem?_push]; simp [Nat.ne_of_lt hb]
  refine ⟨fun q l hq => ?_, fun q l o' hq ho' => ?_, fun q r l l' o1 o2 hq hr h1 h2 hrw hne => ?_⟩
  · unfold bind1 at hq
    split at hq
    · rename_i he; subst he; exact hget_lt ho
    · exact h.bound q l hq
  · unfold bind1 at hq
    split at hq
    · rename_i he
      subst he
      cases hq
      rw [ho] at ho'
      cases ho'
      subst hcs
      refine ⟨(concs μ o.cells ++ rest).toArray, t, (0, 0), by rw [hw]; simp, by simp [concs_map], by simp, fun _ => rfl, fun i v hv => ?_⟩
      have hv' : v ∈ o.cells := List.mem_of_getElem? hv
      have := ok_mono hle v ((oks_iff μ _).1 hok v hv')
      refine ⟨this.1, ?_⟩
      rw [this.2]
      have hi : i < o.cells.length := (List.getElem?_eq_some_iff.1 hv).1
      simp only [Nat.zero_add, List.getElem?_toArray]
      rw [List.getElem?_append_left (by simpa [concs_map] using hi)]
      simp [concs_map, hv]
    · have := h.obj q l o' hq ho'
      exact this.mono hle (hold _ this.lt)
  · unfold bind1 at hq hr
    split at hq
    · rename_i he
      subst he
      split at hr
      · rename_i he'; exact absurd he'.symm hne
      · cases hq
        have := (h.obj r l' o2 hr h2).lt
        exact Nat.ne_of_gt this
    · split at hr
      · cases hr
        have := (h.obj q l o1 hq h1).lt
        exact Nat.ne_of_lt this
      · exact h.inj q r l l' o1 o2 hq hr h1 h2 hrw hne

/-- An object dies. -/
theorem Rel.kill {μ H w} (h : Rel μ H w) (p : Nat) : Rel μ (H.set p none) w := by
  have hk : ∀ q o, hget (H.set p none) q = some o → hget H q = some o := by
    intro q o hq
    by_cases hpq : p = q
    · subst hpq
      rcases Nat.lt_or_ge p H.length with hlt | hge
      · rw [hget_set_same hlt] at hq; cases hq
      · have := hget_lt hq; simp at this; omega
    · rwa [hget_set_ne hpq] at hq
  exact ⟨fun q l hq => by rw [List.length_set]; exact h.bound q l hq, fun q l o hq ho => h.obj q l o hq (hk q o ho),
    fun q r l l' o o' hq hr ho ho' => h.inj q r l l' o o' hq hr (hk q o ho) (hk r o' ho')⟩

/-- An object's last cells are forgotten. -/
theorem Rel.take {μ H w} (h : Rel μ H w) {p : Nat} {ob : MO} (ho : hget H p = some ob) (n : Nat) : Rel μ (H.set p (some ⟨ob.cells.take n, ob.rw⟩)) w ∧ Ext μ H w μ (H.set p (some ⟨ob.cells.take n, ob.rw⟩)) w := by
  have hlt := hget_lt ho
  have key : ∀ q o', hget (H.set p (some ⟨ob.cells.take n, ob.rw⟩)) q = some o' → (q ≠ p ∧ hget H q = some o') ∨ (q = p ∧ o' = ⟨ob.cells.take n, ob.rw⟩) := by
    intro q o' hq
    by_cases hpq : q = p
    · subst hpq
      rw [hget_set_same hlt] at hq
      cases hq
      exact .inr ⟨rfl, rfl⟩
    · rw [hget_set_ne (Ne.symm hpq)] at hq
      exact .inl ⟨hpq, hq⟩
  refine ⟨⟨fun q l hq => by rw [List.length_set]; exact h.bound q l hq, fun q l o' hq ho' => ?_, fun q r l l' o1 o2 hq hr h1 h2 hrw hne => ?_⟩, Mle.refl μ, fun _ _ h => .inl h, by rw [List.length_set]; exact Nat.le_refl _, Nat.le_refl _, fun b hb _ => ?_, fun _ _ _ => rfl, .refl w⟩
  · rcases key q o' ho' with ⟨_, h1⟩ | ⟨rfl, rfl⟩
    · exact h.obj q l o' hq h1
    · obtain ⟨cs, t, fz, h1, h2, h3, h5, h6⟩ := h.obj q l ob hq ho
      refine ⟨cs, t, fz, h1, h2, by simp only [List.length_take]; omega, h5, fun i v hv => h6 i v ?_⟩
      rw [List.getElem?_take] at hv
      split at hv
      · exact hv
      · cases hv
  · rcases key q o1 h1 with ⟨_, g1⟩ | ⟨rfl, rfl⟩ <;> rcases key r o2 h2 with ⟨_, g2⟩ | ⟨rfl, rfl⟩
    · exact h.inj q r l l' o1 o2 hq hr g1 g2 hrw hne
    · exact h.inj q r l l' o1 ob hq hr g1 ho hrw hne
    · exact h.inj q r l l' ob o2 hq hr ho g2 hrw hne
    · exact absurd rfl hne
  · obtain ⟨q, l, o', hq, ho', hrw, hb'⟩ := hb
    rcases key q o' ho' with ⟨_, g1⟩ | ⟨rfl, rfl⟩
    · exact ⟨q, l, o', hq, g1, hrw, hb'⟩
    · exact ⟨q, l, ob, hq, ho, hrw, hb'⟩

theorem hget_kill {H : MH} {p q : Nat} {o : MO} (hq : hget (H.set p none) q = some o) : q ≠ p ∧ hget H q = some o := by
  by_cases hpq : p = q
  · subst hpq
    rcases Nat.lt_or_ge p H.length with hlt | hge
    · rw [hget_set_same hlt] at hq; cases hq
    · have := hget_lt hq; simp at this; omega
  · exact ⟨Ne.symm hpq, by rwa [hget_set_ne hpq] at hq⟩

theorem Ext.kill {μ0 H0 w0 μ H w} (h : Ext μ0 H0 w0 μ H w) (p : Nat) : Ext μ0 H0 w0 μ (H.set p none) w :=
  ⟨h.mono, h.new, by rw [List.length_set]; exact h.hlen, h.size, fun b hb => h.owned b (by
    obtain ⟨q, l, o, hq, ho, rest⟩ := hb
    exact ⟨q, l, o, hq, (hget_kill ho).2, rest⟩), h.frame, h.same⟩

end Go.Proofs.YtcikcinkjbbnhaaDoor.M
