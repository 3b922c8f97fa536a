/- Words for the walks of this seat beside the print's own: a call that the model itself answers (an extern), as an arm of the walk; a row's length, spelled otherwise. No condition beyond those stated. -/
import Derived.Laws.Externs
import Derived.Laws.ByValue
import Derived.Laws.Cover2
import Derived.Test.YtjamobbfafjdmaaWLast
import Derived.Test.YtjamobbfafjdmaaWWords
namespace Go.Proofs.Ytjamobbfafjdmaa.UX
open Go Go.RowKit Go.Proofs.YtjamobbfafjdmaaW.PrintWords Go.Proofs.YtjamobbfafjdmaaW.PrintLast

theorem C_cast {α : Type} {d : Kd α} {w : World} {A : Option Addr} {n m : Nat} {xs : List α} (e : m = n) (h : Kd.C d w A m xs) : Kd.C d w A n xs := e ▸ h

/-- A call that the model answers at once. -/
def CallsX (P : Program) (f : FuncId) (args : Array Value) (w : World) (R : Ending → World → Prop) : Prop :=
  ∃ v, (callFunc f args).run P w = .ok (.value v) w ∧ R (.returned v) w
theorem CallsX.mono {P : Program} {f : FuncId} {args : Array Value} {w : World} {R R' : Ending → World → Prop} (h : CallsX P f args w R) (hr : ∀ e w', R e w' → R' e w') : CallsX P f args w R' := by
  obtain ⟨v, h1, h2⟩ := h
  exact ⟨v, h1, hr _ _ h2⟩
section
variable {P : Program} {ops : Array Oper} {Q : Exit → Act → World → Prop}
theorem goesX_ {oi : Oper} {N : Option Tmp} {a : Act} {w : World} {K : Act → World → Prop} {f : FuncId} {fn : Func} {as : Array Operand} {ts : Array TypeId} (_hf : P.funcs[f]? = some fn) (_hname : (fn.name == "runtime.NumGoroutine") = false) (_hb : fn.body.isNone = true) (args : Array Value)
    (hw : Region.wanted oi (yielded ops a.tmps) = true) (hN : oi.dst = N) (hop : oi.op = .call { callee := .value (.func f), args := as, argTypes := ts }) (hargs : as.map a.eval = args)
    (h : CallsX P f args w fun e w' => ∃ v, e = .returned v ∧ K (a.put N v) w') : if Region.wanted oi (yielded ops a.tmps) = true then Oper.wp P oi a w K Q else K (a.put N undef) w := by
  obtain ⟨v, h1, v', hv, hk⟩ := h
  cases hv
  refine value_ hw hN ?_ hk
  unfold execOp
  simp [hop, resolve, Deferred.ofValue, invoke, Act.eval, hargs, h1]
theorem goesLX_ {rest : List Oper} {oi : Oper} {a : Act} {w : World} (N : Option Tmp) (hd : oi.dst = N) (hg : oi.guard = none) {f : FuncId} {fn : Func} {as : Array Operand} {ts : Array TypeId} (_hf : P.funcs[f]? = some fn) (_hname : (fn.name == "runtime.NumGoroutine") = false) (_hb : fn.body.isNone = true) (args : Array Value)
    (hop : oi.op = .call { callee := .value (.func f), args := as, argTypes := ts }) (hargs : as.map a.eval = args)
    (h : CallsX P f args w fun e w' => ∃ v, e = .returned v ∧ wpList P ops Q rest (a.put N v) w') : wpList P ops Q (oi :: rest) a w := by
  obtain ⟨v, h1, v', hv, hk⟩ := h
  cases hv
  refine wpList_plain hg fun K hK => ?_
  have hrun : (execOp a.eval oi).run P w = .ok (.value v) w := by
    unfold execOp
    simp [hop, resolve, Deferred.ofValue, invoke, Act.eval, hargs, h1]
  unfold Oper.wp
  rw [hrun]
  subst hd
  exact hK _ _ hk
end
/-- A call through a slot that holds a function (and what it has captured). -/
theorem goesLV_ {P : Program} {ops : Array Oper} {Q : Exit → Act → World → Prop} {rest : List Oper} {oi : Oper} {a : Act} {w : World} (N : Option Tmp) (hd : oi.dst = N) (hg : oi.guard = none) {f : FuncId} {fn : Func} {as : Array Operand} {ts : Array TypeId} {cap : Array Value} {x : Operand} (hf : P.funcs[f]? = some fn) (hname : (fn.name == "runtime.NumGoroutine") = false) (hb : fn.body.isSome = true) (args : Array Value)
    (hop : oi.op = .call { callee := .value x, args := as, argTypes := ts }) (hx : a.eval x = .func (.func f) #[] cap) (hargs : as.map a.eval ++ cap = args)
    (h : Calls P f args w fun e w' => ∃ v, e = .returned v ∧ wpList P ops Q rest (a.put N v) w') : wpList P ops Q (oi :: rest) a w := by
  refine wpList_plain hg fun K hK => ?_
  have he := enters_ hf hname hb args w
  have hrun : (execOp a.eval oi).run P w = .ok (.enter f args) w := by
    unfold execOp
    simp [hop, resolve, Deferred.ofValue, invoke, hx, hargs, he]
  unfold Oper.wp
  rw [hrun, Oper.upon_enter]
  refine h.mono fun e w'' hh => ?_
  obtain ⟨v, rfl, hk⟩ := hh
  subst hd
  exact hK _ _ hk
/-- The world is as it was (in the shape in which the print's walks open what a call leaves). -/
def Same (w w' : World) : Prop := ∃ _n : Nat, w = w'
/-- The model's entry for math/bits.Sub64. -/
def sub64E : Array Value → Sem Value := fun args => do
  let (x, y, b) ← Extern.MathBitsCarry.three "Sub64" args
  pure (Extern.MathBitsCarry.pair ((x + Extern.MathBitsCarry.m64 - y - b) % Extern.MathBitsCarry.m64) (if x < y + b then 1 else 0))
theorem run_sub64E {P : Program} (x y b : Nat) (hb : b ≤ 1) (w : World) :
    (sub64E #[.int .u64 x, .int .u64 y, .int .u64 b]).run P w =
      .ok (.tuple #[.int .u64 (((x + 18446744073709551616 - y - b) % 18446744073709551616 : Nat) : Int), .int .u64 ((if x < y + b then 1 else 0 : Nat) : Int)]) w := by
  have : b = 0 ∨ b = 1 := by omega
  rcases this with rfl | rfl <;> rfl
def addF (a0 a1 a2 : Int) : Option (Int × Int) := if 0 ≤ a0 ∧ 0 ≤ a1 ∧ 0 ≤ a2 ∧ a2 ≤ 1 then some ((a0 + a1 + a2) % 18446744073709551616, (a0 + a1 + a2) / 18446744073709551616) else none
def subF (a0 a1 a2 : Int) : Option (Int × Int) := if 0 ≤ a0 ∧ 0 ≤ a1 ∧ a1 < 18446744073709551616 ∧ 0 ≤ a2 ∧ a2 ≤ 1 then some ((a0 - a1 - a2) % 18446744073709551616, if a0 < a1 + a2 then 1 else 0) else none
theorem add_calls {P : Program} {f : FuncId} {fn : Func} (hf : P.funcs[f]? = some fn) (hname : (fn.name == "runtime.NumGoroutine") = false) (hb : fn.body.isNone = true) (hn : Extern.findNext fn = none) (he : Extern.find fn = some add64Entry)
    (a0 a1 a2 r1 r2 : Int) (w : World) (h : addF a0 a1 a2 = some (r1, r2)) :
    CallsX P f #[.int .u64 a0, .int .u64 a1, .int .u64 a2] w fun e w' => e = .returned (.tuple #[.int .u64 r1, .int .u64 r2]) ∧ Same w w' := by
  unfold addF at h
  split at h
  · rename_i hc
    obtain ⟨h0, h1, h2, h3⟩ := hc
    simp only [Option.some.injEq, Prod.mk.injEq] at h
    obtain ⟨rfl, rfl⟩ := h
    refine ⟨_, ?_, rfl, 0, rfl⟩
    rw [run_callFunc_extern hf hname hb hn he, run_add64 a0 a1 a2 h0 h1 h2 h3]
    rfl
  · cases h
theorem sub_calls {P : Program} {f : FuncId} {fn : Func} (hf : P.funcs[f]? = some fn) (hname : (fn.name == "runtime.NumGoroutine") = false) (hb : fn.body.isNone = true) (hn : Extern.findNext fn = none) (he : Extern.find fn = some sub64E)
    (a0 a1 a2 r1 r2 : Int) (w : World) (h : subF a0 a1 a2 = some (r1, r2)) :
    CallsX P f #[.int .u64 a0, .int .u64 a1, .int .u64 a2] w fun e w' => e = .returned (.tuple #[.int .u64 r1, .int .u64 r2]) ∧ Same w w' := by
  unfold subF at h
  split at h
  · rename_i hc
    obtain ⟨h0, h1, h1', h2, h3⟩ := hc
    simp only [Option.some.injEq, Prod.mk.injEq] at h
    obtain ⟨rfl, rfl⟩ := h
    obtain ⟨x, rfl⟩ := Int.eq_ofNat_of_zero_le h0
    obtain ⟨y, rfl⟩ := Int.eq_ofNat_of_zero_le h1
    obtain ⟨b, rfl⟩ := Int.eq_ofNat_of_zero_le h2
    refine ⟨_, ?_, rfl, 0, rfl⟩
    rw [run_callFunc_extern hf hname hb hn he, run_sub64E x y b (by omega)]
    have e1 : (((x + 18446744073709551616 - y - b) % 18446744073709551616 : Nat) : Int) = ((x : Int) - (y : Int) - (b : Int)) % 18446744073709551616 := by omega
    have e2 : ((if x < y + b then 1 else 0 : Nat) : Int) = if (x : Int) < (y : Int) + (b : Int) then 1 else 0 := by split <;> split <;> omega
    rw [e1, e2]
    rfl
  · cases h
/-- A float told by its bits: '==' between two. -/
abbrev feq (a b : Int) : Bool := FloatKind.f64.format.order a.toNat b.toNat == some .eq
def fromF (a0 : Int) : Option Int := some a0
def bitsF (a0 : Int) : Option Int := if 0 ≤ a0 then some a0 else none
theorem from_calls {P : Program} {f : FuncId} {fn : Func} (hf : P.funcs[f]? = some fn) (hname : (fn.name == "runtime.NumGoroutine") = false) (hb : fn.body.isNone = true) (hn : Extern.findNext fn = none) (he : Extern.find fn = some Extern.MathFloatBits.float64frombits)
    (a0 r : Int) (w : World) (h : fromF a0 = some r) : CallsX P f #[.int .u64 a0] w fun e w' => e = .returned (.float .f64 r.toNat) ∧ Same w w' := by
  unfold fromF at h
  simp only [Option.some.injEq] at h
  subst h
  refine ⟨_, ?_, rfl, 0, rfl⟩
  rw [run_callFunc_extern hf hname hb hn he]
  rfl
theorem bits_calls {P : Program} {f : FuncId} {fn : Func} (hf : P.funcs[f]? = some fn) (hname : (fn.name == "runtime.NumGoroutine") = false) (hb : fn.body.isNone = true) (hn : Extern.findNext fn = none) (he : Extern.find fn = some Extern.MathFloatBits.float64bits)
    (a0 r : Int) (w : World) (h : bitsF a0 = some r) : CallsX P f #[.float .f64 a0.toNat] w fun e w' => e = .returned (.int .u64 r) ∧ Same w w' := by
  unfold bitsF at h
  split at h
  · rename_i hc
    simp only [Option.some.injEq] at h
    subst h
    obtain ⟨a, rfl⟩ := Int.eq_ofNat_of_zero_le hc
    refine ⟨_, ?_, rfl, 0, rfl⟩
    rw [run_callFunc_extern hf hname hb hn he]
    rfl
  · cases h
end Go.Proofs.Ytjamobbfafjdmaa.UX
