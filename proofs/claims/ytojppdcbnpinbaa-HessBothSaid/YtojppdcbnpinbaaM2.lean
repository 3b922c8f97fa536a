/- The small machine, second part: what its operations answer, and that the real ones answer the same. -/
import Derived.Test.YtojppdcbnpinbaaM1
import Derived.Laws.Entries
import Derived.Laws.StructEq
set_option linter.unusedSimpArgs false
set_option linter.unusedVariables false
namespace Go.Proofs.Ytojppdcbnpinbaa.M
open Go

/-! ### Types, as the operations ask them -/

inductive TK where
  | struct (fs : List (Nat × Nat))
  | slice (esz : Nat) (ebytes : Nat) (ezero : Option (List Value)) (isInt : Bool)
  | array (n esz : Nat)
  | string
  | int (k : IntKind)
  | bool
  | ptr
  | other
  | none

structure Ty where
  sz : Option Nat
  zero : Option (List Value)
  known : Bool
  agg : Bool
  k : TK

def szOf (P : Program) (t : TypeId) : Nat := ((P.info? t).map (·.size)).getD 0

def ty (P : Program) (t : TypeId) : Ty where
  sz := (P.info? t).map (·.size)
  zero := ((P.info? t).bind (·.zero)).map (·.cells.toList)
  known := (P.underlying t).isSome
  agg := match P.underlying t with
    | some (.struct _) | some (.array _ _) => true
    | _ => false
  k := match P.underlying t with
    | some (.struct fs) => if fs.all (fun f => (P.info? f.type).isSome) then .struct (fs.toList.map fun f => (f.offset, szOf P f.type)) else .other
    | some (.slice e) => match P.info? e with
      | some i => .slice i.size i.bytes (i.zero.map (·.cells.toList)) ((P.underlying e) matches some (.int _))
      | _ => .other
    | some (.array n e) => match P.info? e with
      | some i => .array n i.size
      | _ => .other
    | some .string => .string
    | some (.int k) => .int k
    | some .bool => .bool
    | some (.pointer _) => .ptr
    | some _ => .other
    | _ => .none

/-! ### Temporaries -/

abbrev Env := Nat → MV
def put (ρ : Env) (d : Option Tmp) (v : MV) : Env := match d with
  | some d => fun t => if t = d then v else ρ t
  | none => ρ

def constM : Value → MV
  | .agg cs => .agg (cs.toList.map .lit)
  | .tuple cs => .tup (cs.toList.map .lit)
  | v => .lit v

def ev (ρ : Env) : Operand → MV
  | .tmp t => ρ t
  | .const v => constM v
  | .global g => .lit (.pointer (some ⟨g, 0, none⟩))
  | .func f => .fn (.func f) [] []

theorem conc_lits (μ : Mu) (cs : List Value) : concs μ (cs.map .lit) = cs := by
  induction cs with
  | nil => simp [concs]
  | cons c cs ih => simp [concs, conc, ih]
theorem ok_lits (μ : Mu) (cs : List Value) : Oks μ (cs.map .lit) := by
  induction cs with
  | nil => simp [Oks]
  | cons c cs ih => simp [Oks, Ok, ih]

theorem conc_const (μ : Mu) (v : Value) : conc μ (constM v) = v ∧ Ok μ (constM v) := by
  cases v <;> simp [constM, conc, Ok, conc_lits, ok_lits]

/-- The real temporaries stand for the small ones. -/
structure Tm (μ : Mu) (ρ : Env) (a : Act) : Prop where
  val : ∀ t, conc μ (ρ t) = a.tmps.getD t undef
  ok : ∀ t, Ok μ (ρ t)

theorem Tm.ev {μ ρ a} (h : Tm μ ρ a) (x : Operand) : conc μ (ev ρ x) = a.eval x ∧ Ok μ (ev ρ x) := by
  cases x with
  | tmp t => exact ⟨h.val t, h.ok t⟩
  | const v => exact conc_const μ v
  | global g => simp [M.ev, conc, Ok, Act.eval]
  | func f => simp [M.ev, conc, Ok, Oks, concs, Act.eval]

theorem Tm.mono {μ μ' ρ a} (h : Tm μ ρ a) (hm : Mle μ μ') : Tm μ' ρ a :=
  ⟨fun t => by rw [(ok_mono hm _ (h.ok t)).2]; exact h.val t, fun t => (ok_mono hm _ (h.ok t)).1⟩

theorem Tm.put {μ ρ a} (h : Tm μ ρ a) (d : Option Tmp) (hd : ∀ t, d = some t → t < a.tmps.size) {v : MV} (hv : Ok μ v) : Tm μ (put ρ d v) (a.put d (conc μ v)) := by
  cases d with
  | none => exact h
  | some d =>
    have hlt := hd d rfl
    refine ⟨fun t => ?_, fun t => ?_⟩
    · simp only [M.put, Act.put]
      split
      · rename_i he; subst he; simp [hlt]
      · rename_i he
        rw [h.val t]
        simp [Array.getElem?_setIfInBounds_ne (Ne.symm he)]
    · simp only [M.put]
      split
      · exact hv
      · exact h.ok t

/-! ### Operations that look at no memory -/

def asB : MV → Option Bool
  | .lit (.bool b) => some b
  | _ => none

def cellsM : MV → List MV
  | .agg vs => vs
  | .lit v => v.cells.toList.map .lit
  | v => [v]

/-- A value that one cell holds. -/
def one : MV → Bool
  | .agg _ | .tup _ => false
  | .lit (.agg _) | .lit (.tuple _) => false
  | _ => true

theorem cells_conc (μ : Mu) (v : MV) : (conc μ v).cells = (concs μ (cellsM v)).toArray := by
  cases v with
  | lit v => simp [conc, cellsM, conc_lits]
  | agg vs => simp [conc, cellsM, Value.cells]
  | _ => simp [conc, cellsM, Value.cells, concs]

theorem ok_cells {μ : Mu} {v : MV} (h : Ok μ v) : Oks μ (cellsM v) := by
  cases v with
  | lit v => simp [cellsM, ok_lits]
  | agg vs => simpa [Ok, cellsM] using h
  | _ => simpa [cellsM, Oks] using h

def fillM (place : Nat → Option (Nat × Nat)) (cells : List MV) : List (Nat × MV) → Option (List MV)
  | [] => some cells
  | (i, v) :: rest =>
    match place i with
    | none => none
    | some (off, size) =>
      if (cellsM v).length ≠ size || off + (cellsM v).length > cells.length then none
      else fillM place ((cellsM v).zipIdx.foldl (fun cs (c, j) => cs.set (off + j) c) cells) rest

theorem foldl_set (μ : Mu) (off : Nat) : ∀ (vs : List MV) (k : Nat) (cells : List MV),
    ((concs μ vs).zipIdx k).foldl (fun (cs : Array Value) (x : Value × Nat) => cs.setIfInBounds (off + x.2) x.1) (concs μ cells).toArray =
      (concs μ ((vs.zipIdx k).foldl (fun cs (x : MV × Nat) => cs.set (off + x.2) x.1) cells)).toArray
  | [], _, _ => by simp [concs]
  | v :: vs, k, cells => by
    simp only [concs, List.zipIdx_cons, List.foldl_cons]
    rw [← foldl_set μ off vs (k + 1)]
    congr 1
    simp [concs_map]

theorem foldl_set_ok (μ : Mu) (off : Nat) : ∀ (vs : List MV) (k : Nat) (cells : List MV), Oks μ vs → Oks μ cells →
    Oks μ ((vs.zipIdx k).foldl (fun cs (x : MV × Nat) => cs.set (off + x.2) x.1) cells)
  | [], _, _, _, h => by simpa using h
  | v :: vs, k, cells, hv, h => by
    simp only [List.zipIdx_cons, List.foldl_cons]
    have hv : Ok μ v ∧ Oks μ vs := by simpa [Oks] using hv
    refine foldl_set_ok μ off vs (k + 1) _ hv.2 ?_
    rw [oks_iff] at h ⊢
    intro x hx
    rcases List.mem_or_eq_of_mem_set hx with h1 | h1
    · exact h x h1
    · rw [h1]; exact hv.1

theorem fill_conc (μ : Mu) (place : Nat → Option (Nat × Nat)) : ∀ (parts : List (Nat × MV)) (cells out : List MV), fillM place cells parts = some out →
    Instr.fill place (concs μ cells).toArray (parts.map fun x => (x.1, conc μ x.2)) = some (concs μ out).toArray ∧ ((∀ x ∈ parts, Ok μ x.2) → Oks μ cells → Oks μ out)
  | [], cells, out, h => by
    simp only [fillM, Option.some.injEq] at h
    subst h
    exact ⟨by simp [Instr.fill], fun _ h => h⟩
  | (i, v) :: rest, cells, out, h => by
    simp only [fillM] at h
    cases hp : place i with
    | none => rw [hp] at h; simp at h
    | some os =>
      obtain ⟨off, size⟩ := os
      rw [hp] at h
      simp only at h
      split at h
      · cases h
      · rename_i hc
        have ih := fill_conc μ place rest _ out h
        have hlen : (concs μ cells).length = cells.length := by simp [concs_map]
        have hlen2 : (concs μ (cellsM v)).length = (cellsM v).length := by simp [concs_map]
        refine ⟨?_, fun hok hcs => ih.2 (fun x hx => hok x (List.mem_cons_of_mem _ hx)) (foldl_set_ok μ off _ 0 _ (ok_cells (hok (i, v) (List.mem_cons_self ..))) hcs)⟩
        simp only [List.map_cons, Instr.fill, hp, cells_conc, List.size_toArray, hlen, hlen2]
        rw [if_neg hc, ← ih.1]
        congr 1
        rw [← foldl_set μ off (cellsM v) 0 cells]
        rw [← Array.foldl_toList]
        simp

/-- Are all cells whole numbers? Then an '==' of structs of such is that of the cells. -/
def eqL : List MV → List MV → Option Bool
  | [], [] => some true
  | .lit (.int k a) :: xs, .lit (.int k' b) :: ys => if k = k' then (eqL xs ys).map fun r => (a == b) && r else none
  | _, _ => none

/-- A struct whose fields are whole numbers, one cell each, in order. -/
def flatB (P : Program) (t : TypeId) : Bool := match P.underlying t with
  | some (.struct fs) => !P.stoodInHeld t && !P.eqGuardType P.depth t && fs.toList.zipIdx.all fun (f, i) => f.name != "_" && f.offset == i && (match P.underlying f.type with | some (.int _) => true | _ => false)
  | _ => false

def nfields (P : Program) (t : TypeId) : Nat := match P.underlying t with
  | some (.struct fs) => fs.size
  | _ => 0

def shlV (k : IntKind) (x y : Int) : Int := k.wrap (x * 2 ^ (min y.toNat k.bits))
def shrV (k : IntKind) (x y : Int) : Int := x.fdiv (2 ^ (min y.toNat k.bits))

def binV (P : Program) (op : BinOp) (t : TypeId) (x y : MV) : Option MV :=
  match x, y with
  | .lit (.int k a), .lit (.int k' b) =>
    match op with
    | .shl => if b < 0 then none else some (.lit (.int k (shlV k a b)))
    | .shr => if b < 0 then none else some (.lit (.int k (shrV k a b)))
    | _ => if k ≠ k' then none else match op with
      | .add => some (.lit (.int k (k.wrap (a + b))))
      | .sub => some (.lit (.int k (k.wrap (a - b))))
      | .mul => some (.lit (.int k (k.wrap (a * b))))
      | .quo => if b = 0 then none else some (.lit (.int k (k.wrap (a.tdiv b))))
      | .rem => if b = 0 then none else some (.lit (.int k (a.tmod b)))
      | .and | .or | .xor | .andNot => some (.lit (.int k (bits op k a b)))
      | .eql => some (.lit (.bool (a == b)))
      | .neq => some (.lit (.bool (a != b)))
      | .lss => some (.lit (.bool (decide (a < b))))
      | .leq => some (.lit (.bool (decide (a ≤ b))))
      | .gtr => some (.lit (.bool (decide (a > b))))
      | .geq => some (.lit (.bool (decide (a ≥ b))))
      | _ => none
  | .lit (.bool a), .lit (.bool b) => match P.underlying t, op with
    | some .bool, .eql => some (.lit (.bool (a == b)))
    | some .bool, .neq => some (.lit (.bool (!(a == b))))
    | _, _ => none
  | .ptr _ _, .lit (.pointer none) => match P.underlying t, op with
    | some (.pointer _), .eql => some (.lit (.bool false))
    | some (.pointer _), .neq => some (.lit (.bool true))
    | _, _ => none
  | .lit (.pointer none), .lit (.pointer none) => match P.underlying t, op with
    | some (.pointer _), .eql => some (.lit (.bool true))
    | some (.pointer _), .neq => some (.lit (.bool false))
    | _, _ => none
  | .agg xs, .agg ys =>
    if flatB P t && xs.length == nfields P t && ys.length == nfields P t then
      match op, eqL xs ys with
      | .eql, some r => some (.lit (.bool r))
      | .neq, some r => some (.lit (.bool (!r)))
      | _, _ => none
    else none
  | _, _ => none

def unV (op : UnOp) (x : MV) : Option MV :=
  match op, x with
  | .neg, .lit (.int k n) => some (.lit (.int k (k.wrap (0 - n))))
  | .xor, .lit (.int k n) => some (.lit (.int k (bits .xor k (if k.signed then -1 else k.max) n)))
  | .not, .lit (.bool b) => some (.lit (.bool !b))
  | _, _ => none

def convV (P : Program) (s d : TypeId) (x : MV) : Option MV :=
  match x, (P.underlying s).isSome, (ty P d).k with
  | .lit (.int _ n), true, .int k => some (.lit (.int k (k.wrap n)))
  | _, _, _ => none

def partM (agg : Bool) (sz : Nat) (cs : List MV) (off : Nat) : Option MV :=
  if agg then (if off + sz ≤ cs.length then some (.agg ((cs.drop off).take sz)) else none) else cs[off]?

/-- [l:h] of a slice. -/
def sliceV (esz : Nat) (x : MV) (l h : Option MV) : Option MV :=
  match x with
  | .slice p o n c z =>
    if z = esz then
      match h, l with
      | none, none => some x
      | none, some (.lit (.int _ i)) => if 0 ≤ i ∧ i ≤ n then some (.slice p (if c = i.toNat then o else o + i.toNat * z) (n - i.toNat) (c - i.toNat) z) else none
      | some (.lit (.int _ j)), none => if 0 ≤ j ∧ j ≤ n then some (.slice p o j.toNat c z) else none
      | some (.lit (.int _ j)), some (.lit (.int _ i)) => if 0 ≤ i ∧ i ≤ j ∧ j ≤ n then some (.slice p (if c = i.toNat then o else o + i.toNat * z) (j.toNat - i.toNat) (c - i.toNat) z) else none
      | _, _ => none
    else none
  | _ => none

def lenV (P : Program) (t : TypeId) (x : MV) : Option MV :=
  match x, (ty P t).k with
  | .slice _ _ n _ _, .slice .. => some (.lit (.int .i64 n))
  | .lit (.slice _ n _), .slice .. => some (.lit (.int .i64 n))
  | .lit (.string s), .string => some (.lit (.int .i64 s.size))
  | _, .array n _ => some (.lit (.int .i64 n))
  | _, _ => none

def maxM (x y : MV) : Option MV := match x, y with
  | .lit (.int k a), .lit (.int _ b) => some (.lit (.int k (if b > a then b else a)))
  | _, _ => none
def minM (x y : MV) : Option MV := match x, y with
  | .lit (.int k a), .lit (.int _ b) => some (.lit (.int k (if b < a then b else a)))
  | _, _ => none
def foldV (f : MV → MV → Option MV) : MV → List MV → Option MV
  | x, [] => some x
  | x, y :: ys => (f x y).bind fun z => foldV f z ys

def evs (ρ : Env) (xs : Array Operand) : List MV := xs.toList.map (ev ρ)

/-- What an operation that looks at no memory answers. -/
def pureV (P : Program) (o : Op) (ρ : Env) : Option MV :=
  match o with
  | .move x | .assign x => some (ev ρ x)
  | .pick c a b => (asB (ev ρ c)).map fun t => if t then ev ρ a else ev ρ b
  | .build t parts => match (ty P t).zero, (ty P t).k with
    | some z, .struct fs => (fillM (fs[·]?) (z.map .lit) (parts.toList.map fun x => (x.1, ev ρ x.2))).map .agg
    | some z, .array n e => (fillM (fun i => some (i * e, e)) (z.map .lit) (parts.toList.map fun x => (x.1, ev ρ x.2))).map .agg
    | _, _ => none
  | .nilCheck x => match ev ρ x with
    | .ptr p o => some (.ptr p o)
    | _ => none
  | .binOp op t x y _ => binV P op t (ev ρ x) (ev ρ y)
  | .unOp op _ x => unV op (ev ρ x)
  | .convert s d x => convV P s d (ev ρ x)
  | .extract x i => match ev ρ x with
    | .tup vs => vs[i]?
    | _ => none
  | .fieldAddr t x i => match ev ρ x, (ty P t).k with
    | .ptr p o, .struct fs => match fs[i]? with
      | some (off, sz) => if sz = 0 then none else some (.ptr p (o + off))
      | none => none
    | _, _ => none
  | .field t x i => match ev ρ x, P.underlying t with
    | .agg vs, some (.struct fs) => match fs[i]? with
      | some f => match (ty P f.type).sz with
        | some s => if (ty P f.type).known then partM (ty P f.type).agg s vs f.offset else none
        | none => none
      | none => none
    | _, _ => none
  | .indexAddr t x i => match ev ρ x, ev ρ i, (ty P t).k with
    | .slice p o n _ _, .lit (.int _ j), .slice esz _ _ _ => if 0 ≤ j ∧ j < n then some (.ptr p (o + j.toNat * esz)) else none
    | .ptr p o, .lit (.int _ j), .array n esz => if 0 ≤ j ∧ j < n then some (.ptr p (o + j.toNat * esz)) else none
    | _, _, _ => none
  | .index t x i => match ev ρ x, ev ρ i, (ty P t).k with
    | .lit (.string s), .lit (.int _ j), .string => if 0 ≤ j then (s[j.toNat]?).map fun b => .lit (.int .u8 b.toNat) else none
    | _, _, _ => none
  | .slice t x l h none => match (ty P t).k with
    | .slice esz _ _ _ => sliceV esz (ev ρ x) (l.map (ev ρ)) (h.map (ev ρ))
    | _ => none
  | .makeFunc f a b => some (.fn f (evs ρ a) (evs ρ b))
  | .call { callee := .builtin b, args, argTypes } => match b with
    | .len => match argTypes[0]?, args[0]? with
      | some t, some x => lenV P t (ev ρ x)
      | _, _ => none
    | .max => match evs ρ args with
      | x :: xs => foldV maxM x xs
      | [] => none
    | .min => match evs ρ args with
      | x :: xs => foldV minM x xs
      | [] => none
    | _ => none
  | _ => none

end Go.Proofs.Ytojppdcbnpinbaa.M
