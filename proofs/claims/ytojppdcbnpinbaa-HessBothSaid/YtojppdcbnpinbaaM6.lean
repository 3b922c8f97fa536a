/- The small machine, sixth part: loads, new objects, stores. -/
import Derived.Test.YtojppdcbnpinbaaM5
set_option linter.unusedSimpArgs false
set_option linter.unusedVariables false
namespace Go.Proofs.Ytojppdcbnpinbaa.M
open Go

/-! ### Loads -/

def cellsAt (H : MH) (p o n : Nat) : Option (List MV) :=
  (hget H p).bind fun ob => if o + n ≤ ob.cells.length then some ((ob.cells.drop o).take n) else none

def loadV (P : Program) (t : TypeId) (x : MV) (H : MH) : Option MV :=
  match x with
  | .ptr p o =>
    if (ty P t).known then
      if (ty P t).agg then
        match (ty P t).sz with
        | some n => (cellsAt H p o n).map .agg
        | none => none
      else (hget H p).bind fun ob => ob.cells[o]?
    else none
  | _ => none

theorem Rel.cell {μ H w} (h : Rel μ H w) {p : Nat} {l : Loc} {ob : MO} (hl : μ p = some l) (ho : hget H p = some ob) {i : Nat} {v : MV} (hv : ob.cells[i]? = some v) :
    Ok μ v ∧ w.cell? ⟨l.b, l.off + i, none⟩ = some (conc μ v) := by
  obtain ⟨cs, t, fz, h1, h2, h3, h5, h6⟩ := h.obj p l ob hl ho
  obtain ⟨h7, h8⟩ := h6 i v hv
  exact ⟨h7, by simp [World.cell?, h1, h8]⟩

theorem Rel.cells {μ H w} (h : Rel μ H w) {P : Program} {p o n : Nat} {l : Loc} {vs : List MV} (hl : μ p = some l) (hc : cellsAt H p o n = some vs) :
    Oks μ vs ∧ (loadCells ⟨l.b, l.off + o, none⟩ n).run P w = .ok (concs μ vs).toArray w ∧ vs.length = n := by
  unfold cellsAt at hc
  simp only [Option.bind_eq_some_iff] at hc
  obtain ⟨ob, hob, hc⟩ := hc
  split at hc
  · rename_i hle
    cases hc
    have hlen : ((ob.cells.drop o).take n).length = n := by simp; omega
    have hcell : ∀ j v, ((ob.cells.drop o).take n)[j]? = some v → Ok μ v ∧ w.cell? ⟨l.b, l.off + o + j, none⟩ = some (conc μ v) := by
      intro j v hv
      have hj : j < n := by
        have := (List.getElem?_eq_some_iff.1 hv).1
        omega
      rw [List.getElem?_take_of_lt hj, List.getElem?_drop] at hv
      have := h.cell hl hob hv
      rw [Nat.add_assoc]
      exact this
    refine ⟨?_, ?_, hlen⟩
    · rw [oks_iff]
      intro v hv
      obtain ⟨j, hj⟩ := List.getElem?_of_mem hv
      exact (hcell j v hj).1
    · have := run_loadCells_list (P := P) w ⟨l.b, l.off + o, none⟩ (concs μ ((ob.cells.drop o).take n)) (fun j v hv => by
        rw [concs_map, List.getElem?_map, Option.map_eq_some_iff] at hv
        obtain ⟨u, hu, rfl⟩ := hv
        rw [Addr.add_lit]
        exact (hcell j u hu).2)
      rw [show (concs μ ((ob.cells.drop o).take n)).length = n by rw [concs_map, List.length_map]; exact hlen] at this
      exact this
  · cases hc

theorem load_sound {P : Program} {t : TypeId} {x : Operand} {H : MH} {ρ : Env} {v : MV} (h : loadV P t (ev ρ x) H = some v) {μ : Mu} {a : Act} {w : World} (ht : Tm μ ρ a) (hr : Rel μ H w)
    (o : Oper) (ho : o.op = .load t x) : (execOp a.eval o).run P w = .ok (.value (conc μ v)) w ∧ Ok μ v := by
  obtain ⟨dst, op, typ, pos, aft, grd⟩ := o
  cases ho
  have hx := ht.ev x
  unfold loadV at h
  split at h
  · rename_i p q hv
    rw [hv] at hx
    obtain ⟨l, hl⟩ := by simpa [Ok] using hx.2
    have he : a.eval x = .pointer (some ⟨l.b, l.off + q, none⟩) := by rw [← hx.1]; simp [conc, loc_some hl]
    split at h
    · rename_i hkn
      have hia := run_isAgg hkn w
      split at h
      · rename_i hag
        rw [hag] at hia
        split at h
        · rename_i n hn
          simp only [Option.map_eq_some_iff] at h
          obtain ⟨vs, hvs, rfl⟩ := h
          have hc := hr.cells (P := P) hl hvs
          have hsz : ∃ i, P.info? t = some i ∧ i.size = n := by
            have : (P.info? t).map (·.size) = some n := hn
            simpa using this
          obtain ⟨inf, hinf, rfl⟩ := hsz
          exact ⟨by simp [execOp, Instr.loadAt, he, Instr.sureAddr, loadVar, hia, run_sizeOf hinf, hc.2.1, conc], by simpa [Ok] using hc.1⟩
        · cases h
      · rename_i hag
        simp only [Bool.not_eq_true] at hag
        rw [hag] at hia
        simp only [Option.bind_eq_some_iff] at h
        obtain ⟨ob, hob, hc⟩ := h
        have := hr.cell hl hob hc
        exact ⟨by simp [execOp, Instr.loadAt, he, Instr.sureAddr, loadVar, hia, this.2], this.1⟩
    · cases h
  · cases h

/-! ### New objects -/

/-- What a new object holds, and the value that leads to it. -/
def allocV (P : Program) (o : Op) (ρ : Env) : Option (List MV × (Nat → MV)) :=
  match o with
  | .alloc e => (ty P e).zero.map fun z => (z.map .lit, fun p => .ptr p 0)
  | .box e x => some (cellsM (ev ρ x), fun p => .ptr p 0)
  | .buildSlice t n parts => match (ty P t).k with
    | .slice esz _ (some z) _ =>
      if n * esz ≤ 2 ^ 24 ∧ z.length = esz then
        (fillM (fun i => some (i * esz, esz)) ((List.range (n * esz)).map fun i => .lit (z.getD (i % z.length) undef)) (parts.toList.map fun x => (x.1, ev ρ x.2))).bind fun cs =>
          if cs.length = n * esz then some (cs, fun p => .slice p 0 n n esz) else none
      else none
    | _ => none
  | .makeSlice t l c => match (ty P t).k, ev ρ l, ev ρ c with
    | .slice esz eb (some z) _, .lit (.int .i64 n), .lit (.int .i64 m) =>
      if n = m ∧ 0 ≤ n ∧ eb * n ≤ 2 ^ 48 ∧ n < 2 ^ 63 ∧ z.length = esz then some ((List.range (n.toNat * esz)).map fun i => .lit (z.getD (i % z.length) undef), fun p => .slice p 0 n.toNat n.toNat esz) else none
    | _, _, _ => none
  | _ => none

theorem zmap0 {k : Nat} (h : k = 0) (z : List Value) (f : Nat → Value) : (Array.range k).map f = ((List.range k).map fun i => z.getD (i % z.length) undef).toArray := by
  subst h; simp
theorem zmap1 {k : Nat} {z : List Value} {zz : Array Value} (hz : zz = z.toArray) (hpos : 0 < z.length) : (Array.range k).map (zz[· % zz.size]!) = ((List.range k).map fun i => z.getD (i % z.length) undef).toArray := by
  subst hz
  apply Array.ext'
  simp only [Array.toList_map, Array.toList_range]
  refine List.map_congr_left fun i hi => ?_
  have hlt : i % z.length < z.length := Nat.mod_lt _ hpos
  simp [List.getD, hlt]

/-- The real operation makes a block of these cells. -/
theorem alloc_sound {P : Program} {o : Oper} {ρ : Env} {cs : List MV} {f : Nat → MV} (h : allocV P o.op ρ = some (cs, f)) {μ : Mu} {a : Act} (ht : Tm μ ρ a) (w : World) :
    Oks μ cs ∧ ∃ v t, (execOp a.eval o).run P w = .ok (.value v) { w with heap := w.heap.push (.cells (concs μ cs).toArray t) } ∧
      ∀ (μ' : Mu) p, μ' p = some ⟨w.heap.size, 0, cs.length⟩ → conc μ' (f p) = v ∧ Ok μ' (f p) := by
  obtain ⟨dst, op, typ, pos, aft, grd⟩ := o
  simp only at h
  unfold allocV at h
  have hptr : ∀ (μ' : Mu) (p : Nat), μ' p = some ⟨w.heap.size, 0, cs.length⟩ → conc μ' (.ptr p 0) = .pointer (some ⟨w.heap.size, 0, none⟩) ∧ Ok μ' (.ptr p 0) := fun μ' p hp => by
    simp [conc, loc_some hp, Ok, hp]
  split at h
  · rename_i e
    simp only [Option.map_eq_some_iff, Prod.mk.injEq] at h
    obtain ⟨z, hz, rfl, rfl⟩ := h
    obtain ⟨zv, hzv, hzc⟩ := run_zeroValue hz w
    refine ⟨ok_lits μ z, .pointer (some ⟨w.heap.size, 0, none⟩), e, ?_, hptr⟩
    simp [execOp, Instr.alloc, hzv, newVar, newRow, hzc, conc_lits]
  · rename_i e x
    simp only [Option.some.injEq, Prod.mk.injEq] at h
    obtain ⟨rfl, rfl⟩ := h
    have hx := ht.ev x
    refine ⟨ok_cells hx.2, .pointer (some ⟨w.heap.size, 0, none⟩), e, ?_, hptr⟩
    simp [execOp, Instr.box, newVar, newRow, ← hx.1, cells_conc]
  · rename_i t n parts
    split at h
    · rename_i esz eb z ei hk
      split at h
      · rename_i hle
        simp only [Option.bind_eq_some_iff] at h
        obtain ⟨cs', hcs, h⟩ := h
        split at h
        · rename_i hlen
          simp only [Option.some.injEq, Prod.mk.injEq] at h
          obtain ⟨rfl, rfl⟩ := h
          obtain ⟨e, inf, hu, hinf, rfl, rfl, hz, _⟩ := ty_slice hk
          have hf := fill_conc μ _ _ _ _ hcs
          have hparts : ((parts.map fun (i, x) => (i, a.eval x)).toList) = ((parts.toList.map fun x => (x.1, ev ρ x.2)).map fun x => (x.1, conc μ x.2)) := by
            simp only [Array.toList_map, List.map_map]
            exact List.map_congr_left fun x _ => by simp [(ht.ev x.2).1]
          have hpok : ∀ x ∈ (parts.toList.map fun x => (x.1, ev ρ x.2)), Ok μ x.2 := by
            intro x hx
            simp only [List.mem_map] at hx
            obtain ⟨y, _, rfl⟩ := hx
            exact (ht.ev y.2).2
          have hinit : (concs μ ((List.range (n * inf.size)).map fun i => MV.lit (z.getD (i % z.length) undef))) = (List.range (n * inf.size)).map fun i => z.getD (i % z.length) undef := by
            simp [concs_map, conc]
          rw [hinit] at hf
          refine ⟨hf.2 hpok (by rw [oks_iff]; intro v hv; simp only [List.mem_map] at hv; obtain ⟨i, _, rfl⟩ := hv; simp [Ok]), .slice (some ⟨w.heap.size, 0, none⟩) n n, e, ?_, fun μ' p hp => ?_⟩
          · obtain ⟨zv, hzv, hzc⟩ := run_zeroValue (P := P) (t := e) (z := z) (by simp [ty, hinf]; simpa using hz.symm) w
            simp only [execOp, Instr.buildSlice, Sem.run_bind, run_underlying hu, run_sizeOf hinf, Result.andThen_ok]
            rw [if_neg (by omega)]
            by_cases h0 : n * inf.size = 0
            · simp only [if_pos h0, Sem.run_bind, Sem.run_pure, Result.andThen_ok, hparts]
              rw [zmap0 h0 z, hf.1]
              simp [newRow]
            · have hpos : 0 < z.length := by
                rw [hle.2]
                exact Nat.pos_of_ne_zero fun h => h0 (by rw [h]; simp)
              simp only [if_neg h0, Sem.run_bind, hzv, Sem.run_pure, Result.andThen_ok, hparts]
              rw [zmap1 hzc hpos, hf.1]
              simp [newRow]
          · refine ⟨by simp [conc, loc_some hp], ?_⟩
            simp only [Ok]
            exact ⟨Nat.le_refl _, _, hp, by simp [hlen]⟩
        · cases h
      · cases h
    · cases h
  · rename_i t l c
    split at h
    · rename_i esz eb z ei n m hk hl hc
      split at h
      · rename_i hcond
        simp only [Option.some.injEq, Prod.mk.injEq] at h
        obtain ⟨rfl, rfl⟩ := h
        obtain ⟨rfl, h0, hbig, h63, hzl⟩ := hcond
        obtain ⟨e, inf, hu, hinf, rfl, rfl, hz, _⟩ := ty_slice hk
        have hl' := (ht.ev l).1
        have hc' := (ht.ev c).1
        rw [hl] at hl'
        rw [hc] at hc'
        refine ⟨by rw [oks_iff]; intro v hv; simp only [List.mem_map] at hv; obtain ⟨i, _, rfl⟩ := hv; simp [Ok], .slice (some ⟨w.heap.size, 0, none⟩) n.toNat n.toNat, e, ?_, fun μ' p hp => ?_⟩
        · obtain ⟨zv, hzv, hzc⟩ := run_zeroValue (P := P) (t := e) (z := z) (by simp [ty, hinf]; simpa using hz.symm) w
          have hwrap : IntKind.i64.wrap n = n := by
            have h1 : n % 18446744073709551616 = n := by omega
            have h2 : ¬ (9223372036854775808 ≤ n) := by omega
            simp [IntKind.wrap, IntKind.signed, IntKind.bits, h1, h2]
          have hinit : (concs μ ((List.range (n.toNat * inf.size)).map fun i => MV.lit (z.getD (i % z.length) undef))) = (List.range (n.toNat * inf.size)).map fun i => z.getD (i % z.length) undef := by
            simp [concs_map, conc]
          rw [hinit]
          simp only [execOp, Instr.makeSlice, Sem.run_bind, run_underlying hu, run_typeInfo hinf, Result.andThen_ok, ← hl', ← hc', conc, asInt, asIntOf, Sem.run_pure, hwrap]
          have hbig' : ((inf.bytes : Int) * n > 2 ^ 48) = False := by simp; omega
          have hneg : (n < 0) = False := by simp; omega
          simp only [hneg, hbig', decide_false, Bool.or_self, Int.lt_irrefl, or_self, gt_iff_lt, Bool.false_eq_true, if_false, Sem.run_bind, run_askRoom, Result.andThen_ok, run_sizeOf hinf]
          by_cases h0 : n.toNat * inf.size = 0
          · simp only [if_pos h0, Sem.run_bind, Sem.run_pure, Result.andThen_ok]
            rw [zmap0 h0 z (fun x => (#[] : Array Value)[x % (#[] : Array Value).size]!)]
            simp [newRow]
          · have hpos : 0 < z.length := by
              rw [hzl]
              exact Nat.pos_of_ne_zero fun h => h0 (by rw [h]; simp)
            simp only [if_neg h0, Sem.run_bind, hzv, Sem.run_pure, Result.andThen_ok]
            rw [← zmap1 hzc hpos]
            simp [newRow]
        · refine ⟨by simp [conc, loc_some hp], ?_⟩
          simp only [Ok]
          exact ⟨Nat.le_refl _, _, hp, by simp⟩
      · cases h
    · cases h
  · cases h

end Go.Proofs.Ytojppdcbnpinbaa.M
