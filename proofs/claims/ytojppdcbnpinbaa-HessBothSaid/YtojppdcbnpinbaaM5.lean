/- The small machine, fifth part: each operation that looks at no memory is met. -/
import Derived.Test.YtojppdcbnpinbaaM4
set_option linter.unusedSimpArgs false
set_option linter.unusedVariables false
namespace Go.Proofs.Ytojppdcbnpinbaa.M
open Go

theorem run_build_places {P : Program} (w : World) (fs : Array Field) (h : ∀ f ∈ fs.toList, (P.info? f.type).isSome = true) :
    ((fs.mapM fun f => do pure (f.offset, ← sizeOf f.type) : Sem (Array (Nat × Nat)))).run P w = .ok (fs.toList.map fun f => (f.offset, szOf P f.type)).toArray w := by
  have := run_places (P := P) w fs.toList h
  rw [Array.mapM_eq_mapM_toList]
  simp only [Sem.run_map, this, Result.andThen_ok]

theorem run_underlying' {P : Program} {t : TypeId} {d : TypeDesc} (h : P.underlying t = some d) (w : World) : (underlying t).run P w = .ok d w := run_underlying h w

theorem pure_sound {P : Program} {o : Oper} {ρ : Env} {v : MV} (h : pureV P o.op ρ = some v) {μ : Mu} {a : Act} (ht : Tm μ ρ a) : Ans P o a μ v := by
  obtain ⟨dst, op, typ, pos, aft, grd⟩ := o
  simp only at h
  unfold Ans
  unfold pureV at h
  split at h
  · rename_i x
    cases h
    exact ⟨fun w => by simp [execOp, (ht.ev x).1], (ht.ev x).2⟩
  · rename_i x
    cases h
    exact ⟨fun w => by simp [execOp, (ht.ev x).1], (ht.ev x).2⟩
  · rename_i c x y
    simp only [Option.map_eq_some_iff] at h
    obtain ⟨b, hb, hv⟩ := h
    have hc : a.eval c = .bool b := by
      rw [← (ht.ev c).1]
      unfold asB at hb
      split at hb
      · rename_i b' he; cases hb; rw [he]; simp [conc]
      · cases hb
    cases b
    · simp only [Bool.false_eq_true, if_false] at hv
      subst hv
      exact ⟨fun w => by simp [execOp, hc, asBool, (ht.ev y).1], (ht.ev y).2⟩
    · simp only [if_true] at hv
      subst hv
      exact ⟨fun w => by simp [execOp, hc, asBool, (ht.ev x).1], (ht.ev x).2⟩
  · rename_i t parts
    have hparts : ((parts.map fun (i, x) => (i, a.eval x)).toList) = ((parts.toList.map fun x => (x.1, ev ρ x.2)).map fun x => (x.1, conc μ x.2)) := by
      simp only [Array.toList_map, List.map_map]
      exact List.map_congr_left fun x _ => by simp [(ht.ev x.2).1]
    have hpok : ∀ x ∈ (parts.toList.map fun x => (x.1, ev ρ x.2)), Ok μ x.2 := by
      intro x hx
      simp only [List.mem_map] at hx
      obtain ⟨y, _, rfl⟩ := hx
      exact (ht.ev y.2).2
    split at h
    · rename_i z fs hz hk
      simp only [Option.map_eq_some_iff] at h
      obtain ⟨out, hout, rfl⟩ := h
      obtain ⟨g, hg, hinf, rfl⟩ := ty_struct hk
      have hf := fill_conc μ _ _ _ _ hout
      refine ⟨fun w => ?_, by simpa [Ok] using hf.2 hpok (ok_lits μ z)⟩
      obtain ⟨zv, hzv, hzc⟩ := run_zeroValue hz w
      have hpl := run_build_places (P := P) w g hinf
      simp only [bind_pure_comp] at hpl
      simp only [execOp, Instr.build, Sem.run_bind, hzv, Result.andThen_ok, run_underlying hg, hpl, hzc, hparts, bind_pure_comp, Sem.run_map]
      rw [conc_lits] at hf
      have he : (fun x : Nat => (List.map (fun f => (f.offset, szOf P f.type)) g.toList).toArray[x]?) = (fun x : Nat => (List.map (fun f => (f.offset, szOf P f.type)) g.toList)[x]?) := by
        funext x; simp
      rw [he, hf.1]
      simp [conc]
    · rename_i z n e hz hk
      simp only [Option.map_eq_some_iff] at h
      obtain ⟨out, hout, rfl⟩ := h
      obtain ⟨u, i, hu, hi, rfl⟩ := ty_array hk
      have hf := fill_conc μ _ _ _ _ hout
      refine ⟨fun w => ?_, by simpa [Ok] using hf.2 hpok (ok_lits μ z)⟩
      obtain ⟨zv, hzv, hzc⟩ := run_zeroValue hz w
      simp only [execOp, Instr.build, Sem.run_bind, hzv, Result.andThen_ok, run_underlying hu, run_sizeOf hi, hzc, hparts, bind_pure_comp, Sem.run_map]
      rw [conc_lits] at hf
      rw [hf.1]
      simp [conc]
    · cases h
  · rename_i x
    split at h
    · rename_i p q hx
      cases h
      have hh := ht.ev x
      rw [hx] at hh
      obtain ⟨l, hl⟩ := by simpa [Ok] using hh.2
      refine ⟨fun w => ?_, hh.2⟩
      have he : a.eval x = .pointer (some ⟨l.b, l.off + q, none⟩) := by rw [← hh.1]; simp [conc, loc, hl]
      simp [execOp, he, conc, loc, hl]
    · cases h
  · rename_i op t x y yt
    have := fun w => binV_sound h μ (ht.ev x).2 x y w
    refine ⟨fun w => ?_, (this default).2⟩
    have h1 := (this w).1
    rw [(ht.ev x).1, (ht.ev y).1] at h1
    simp only [execOp]
    rw [Sem.run_bind, h1]
    rfl
  · rename_i op t x
    unfold unV at h
    have hx := (ht.ev x).1
    split at h
    · rename_i hv; cases h; rw [hv] at hx; refine ⟨fun w => ?_, by simp [Ok]⟩; simp [execOp, ← hx, conc, Op.unary, Op.intArith]
    · rename_i hv; cases h; rw [hv] at hx; refine ⟨fun w => ?_, by simp [Ok]⟩; simp [execOp, ← hx, conc, Op.unary, intBits_xor]
    · rename_i hv; cases h; rw [hv] at hx; refine ⟨fun w => ?_, by simp [Ok]⟩; simp [execOp, ← hx, conc, Op.unary]
    · cases h
  · rename_i s d x
    unfold convV at h
    have hx := (ht.ev x).1
    split at h
    · rename_i k0 n k hv hs hk
      cases h
      rw [hv] at hx
      obtain ⟨ds, hds⟩ := Option.isSome_iff_exists.1 hs
      refine ⟨fun w => ?_, by simp [Ok]⟩
      simp [execOp, ← hx, conc, convert, run_underlying hds, run_underlying (ty_int hk), Conv.intToInt]
    · cases h
  · rename_i x i
    have hx := ht.ev x
    split at h
    · rename_i vs hv
      rw [hv] at hx
      have hok : Oks μ vs := by simpa [Ok] using hx.2
      refine ⟨fun w => ?_, (oks_iff μ vs).1 hok v (List.mem_of_getElem? h)⟩
      have : (concs μ vs)[i]? = some (conc μ v) := by simp [concs_map, h]
      simp [execOp, ← hx.1, conc, Instr.extract, this]
    · cases h
  · rename_i t x i
    have hx := ht.ev x
    split at h
    · rename_i p q fs hv hk
      rw [hv] at hx
      obtain ⟨l, hl⟩ := by simpa [Ok] using hx.2
      obtain ⟨g, hg, hinf, rfl⟩ := ty_struct hk
      split at h
      · rename_i off sz hfi
        split at h
        · cases h
        · rename_i hsz
          cases h
          simp only [List.getElem?_map, Option.map_eq_some_iff, Prod.mk.injEq] at hfi
          obtain ⟨f, hf, rfl, hs⟩ := hfi
          have hf' : g[i]? = some f := by simpa using hf
          have hmem : f ∈ g.toList := List.mem_of_getElem? hf
          obtain ⟨inf, hinf'⟩ := Option.isSome_iff_exists.1 (hinf f hmem)
          have hne : inf.size ≠ 0 := by
            simp only [szOf, hinf', Option.map_some, Option.getD_some] at hs
            rw [hs]; exact hsz
          refine ⟨fun w => ?_, by simp [Ok, hl]⟩
          simp [execOp, Instr.fieldAt, run_underlying hg, hf', ← hx.1, conc, loc_some hl, Instr.sureAddr, fieldPlace, run_sizeOf hinf', hne, loc_add hl]
      · cases h
    · cases h
  · rename_i t x i
    have hx := ht.ev x
    split at h
    · rename_i vs fs hv hu
      rw [hv] at hx
      have hok : Oks μ vs := by simpa [Ok] using hx.2
      split at h
      · rename_i f hf
        split at h
        · rename_i s hs
          split at h
          · rename_i hkn
            have hsz : ∃ i, P.info? f.type = some i ∧ i.size = s := by
              have : (P.info? f.type).map (·.size) = some s := hs
              simpa using this
            obtain ⟨inf, hinf, rfl⟩ := hsz
            unfold partM at h
            cases hag : (ty P f.type).agg
            · rw [hag] at h
              simp only [Bool.false_eq_true, if_false] at h
              refine ⟨fun w => ?_, (oks_iff μ vs).1 hok v (List.mem_of_getElem? h)⟩
              have : (concs μ vs)[f.offset]? = some (conc μ v) := by simp [concs_map, h]
              have hia := run_isAgg hkn w
              rw [hag] at hia
              simp [execOp, Instr.field, run_underlying hu, hf, ← hx.1, conc, asAgg, part, hia, this]
            · rw [hag] at h
              simp only [if_true] at h
              split at h
              · rename_i hle
                cases h
                refine ⟨fun w => ?_, ?_⟩
                · have hia := run_isAgg hkn w
                  rw [hag] at hia
                  simp [execOp, Instr.field, run_underlying hu, hf, ← hx.1, conc, asAgg, part, hia, run_sizeOf hinf, concs_map, List.take_drop, List.map_take, List.map_drop, Nat.add_comm]
                · simp only [Ok, oks_iff]
                  intro u hu'
                  exact (oks_iff μ vs).1 hok u (List.mem_of_mem_drop (List.mem_of_mem_take hu'))
              · cases h
          · cases h
        · cases h
      · cases h
    · cases h
  · rename_i t x i
    have hx := ht.ev x
    have hi := ht.ev i
    split at h
    · rename_i p q n c z k j esz eb ez ei hv hj hk
      rw [hv] at hx
      rw [hj] at hi
      obtain ⟨e, inf, hu, hinf, rfl, _⟩ := ty_slice hk
      obtain ⟨hn, l, hl, hle⟩ := by simpa [Ok] using hx.2
      split at h
      · rename_i hb
        cases h
        refine ⟨fun w => ?_, by simp [Ok, hl]⟩
        simp [execOp, ← hx.1, ← hi.1, conc, loc_some hl, Instr.indexAt, asIntOf, run_underlying hu, hb, run_sizeOf hinf, loc_add hl]
      · cases h
    · rename_i p q k j n esz hv hj hk
      rw [hv] at hx
      rw [hj] at hi
      obtain ⟨e, inf, hu, hinf, rfl⟩ := ty_array hk
      obtain ⟨l, hl⟩ := by simpa [Ok] using hx.2
      split at h
      · rename_i hb
        cases h
        refine ⟨fun w => ?_, by simp [Ok, hl]⟩
        simp [execOp, ← hx.1, ← hi.1, conc, loc_some hl, Instr.indexAt, asIntOf, run_underlying hu, Instr.sureAddr, hb, run_sizeOf hinf, loc_add hl]
      · cases h
    · cases h
  · rename_i t x i
    have hx := ht.ev x
    have hi := ht.ev i
    split at h
    · rename_i s k j hv hj hk
      rw [hv] at hx
      rw [hj] at hi
      split at h
      · rename_i h0
        simp only [Option.map_eq_some_iff] at h
        obtain ⟨b, hb, rfl⟩ := h
        refine ⟨fun w => ?_, by simp [Ok]⟩
        simp [execOp, Instr.index, ← hx.1, ← hi.1, conc, asIntOf, run_underlying (ty_string hk), h0, hb]
      · cases h
    · cases h
  · rename_i t x l h'
    have hx := ht.ev x
    split at h
    · rename_i esz eb ez ei hk
      obtain ⟨e, inf, hu, hinf, rfl, _⟩ := ty_slice hk
      unfold sliceV at h
      split at h
      · rename_i p q n c z hv
        rw [hv] at hx
        split at h
        · rename_i hz
          subst hz
          obtain ⟨hn, lo, hlo, hle⟩ := by simpa [Ok] using hx.2
          have hev : a.eval x = .slice (some ⟨lo.b, lo.off + q, none⟩) n c := by rw [← hx.1]; simp [conc, loc_some hlo]
          have hoff : ∀ i : Nat, i ≤ c → (if c = i then q else q + i * inf.size) + (c - i) * inf.size ≤ lo.ext := by
            intro i hi
            split
            · rename_i he; subst he; simp; omega
            · have : i * inf.size + (c - i) * inf.size = c * inf.size := by rw [← Nat.add_mul]; congr 1; omega
              omega
          have hadd : ∀ i : Nat, (if c = i then some ⟨lo.b, lo.off + q, none⟩ else some ((⟨lo.b, lo.off + q, none⟩ : Addr).add (i * inf.size))) = loc μ p (if c = i then q else q + i * inf.size) := by
            intro i
            split
            · rw [loc_some hlo]
            · rw [loc_some hlo, loc_add hlo]
          have hrun : ∀ w, (execOp a.eval ⟨dst, .slice t x l h' none, typ, pos, aft, grd⟩).run P w = ((Instr.sliceBounds true n c (l.map a.eval) (h'.map a.eval) none).run P w).andThen fun r w => .ok (.value (.slice (if r.2.2 = r.1 then some ⟨lo.b, lo.off + q, none⟩ else some ((⟨lo.b, lo.off + q, none⟩ : Addr).add (r.1 * inf.size))) (r.2.1 - r.1) (r.2.2 - r.1))) w := by
            intro w
            simp only [execOp, Instr.sliceAt, hev, Sem.run_bind, run_underlying hu, Result.andThen_ok, Instr.slice, Option.map_none]
            cases (Instr.sliceBounds true n c (l.map a.eval) (h'.map a.eval) none).run P w with
            | ok r w' => simp [run_sizeOf hinf]
            | halt e w' => rfl
          split at h
          · rename_i hh hl
            cases h
            simp only [Option.map_eq_none_iff] at hh hl
            subst hh; subst hl
            rw [hv]
            refine ⟨fun w => ?_, hx.2⟩
            rw [hrun w]
            have := hadd 0
            simp only [Nat.zero_mul, Nat.add_zero] at this
            simp [Instr.sliceBounds, conc, loc_some hlo, Addr.add]
          · rename_i k i hh hl
            simp only [Option.map_eq_none_iff] at hh
            simp only [Option.map_eq_some_iff] at hl
            obtain ⟨xl, rfl, hxl⟩ := hl
            subst hh
            split at h
            · rename_i hb
              cases h
              have hl1 : a.eval xl = .int k i := by rw [← (ht.ev xl).1, hxl]; simp [conc]
              refine ⟨fun w => ?_, by simp only [Ok]; exact ⟨by omega, lo, hlo, hoff i.toNat (by omega)⟩⟩
              rw [hrun w]
              simp [Instr.sliceBounds, hl1, run_sliceBound hb, conc, hadd]
            · cases h
          · rename_i k j hh hl
            simp only [Option.map_eq_none_iff] at hl
            simp only [Option.map_eq_some_iff] at hh
            obtain ⟨xh, rfl, hxh⟩ := hh
            subst hl
            split at h
            · rename_i hb
              cases h
              have hl1 : a.eval xh = .int k j := by rw [← (ht.ev xh).1, hxh]; simp [conc]
              refine ⟨fun w => ?_, by simp only [Ok]; exact ⟨by omega, lo, hlo, by omega⟩⟩
              rw [hrun w]
              have hb' : 0 ≤ j ∧ j ≤ (c : Int) := by omega
              simp [Instr.sliceBounds, hl1, run_sliceBound hb', conc, loc_some hlo, Addr.add]
            · cases h
          · rename_i k j k' i hh hl
            simp only [Option.map_eq_some_iff] at hh hl
            obtain ⟨xh, rfl, hxh⟩ := hh
            obtain ⟨xl, rfl, hxl⟩ := hl
            split at h
            · rename_i hb
              cases h
              have hl1 : a.eval xh = .int k j := by rw [← (ht.ev xh).1, hxh]; simp [conc]
              have hl2 : a.eval xl = .int k' i := by rw [← (ht.ev xl).1, hxl]; simp [conc]
              refine ⟨fun w => ?_, by simp only [Ok]; exact ⟨by omega, lo, hlo, hoff i.toNat (by omega)⟩⟩
              rw [hrun w]
              have hb' : 0 ≤ j ∧ j ≤ (c : Int) := by omega
              have hb2 : 0 ≤ i ∧ i ≤ ((j.toNat : Nat) : Int) := by omega
              simp [Instr.sliceBounds, hl1, hl2, run_sliceBound hb', run_sliceBound hb2, conc, hadd]
            · cases h
          · cases h
        · cases h
      · cases h
    · cases h
  · rename_i f x y
    cases h
    have h1 := ht.evs x
    have h2 := ht.evs y
    exact ⟨fun w => by simp [execOp, Instr.makeFunc, conc, h1.1, h2.1], by simp [Ok, h1.2, h2.2]⟩
  · rename_i b args ats
    have hargs := ht.evs args
    have hget : ∀ (j : Nat) (x : Operand), args[j]? = some x → (args.map a.eval)[j]? = some (conc μ (ev ρ x)) := by
      intro j x hx
      simp [hx, (ht.ev x).1]
    split at h
    · split at h
      · rename_i t x hat hxa
        have hx := ht.ev x
        have hx0 := hget 0 x hxa
        unfold lenV at h
        have hrun : ∀ w, (execOp a.eval ⟨dst, .call { callee := .builtin .len, args, argTypes := ats }, typ, pos, aft, grd⟩).run P w = ((Builtin.len_ ats typ (args.map a.eval)).run P w).andThen fun v w => .ok (.value v) w := by
          intro w
          simp [execOp, resolve, invoke, builtin]
        split at h
        · rename_i hv hk
          cases h
          rw [hv] at hx0
          obtain ⟨e, inf, hu, _⟩ := ty_slice hk
          refine ⟨fun w => ?_, by simp [Ok]⟩
          rw [hrun w]
          simp [Builtin.len_, hat, hx0, run_underlying hu, conc, goInt]
        · rename_i hv hk
          cases h
          rw [hv] at hx0
          obtain ⟨e, inf, hu, _⟩ := ty_slice hk
          refine ⟨fun w => ?_, by simp [Ok]⟩
          rw [hrun w]
          simp [Builtin.len_, hat, hx0, run_underlying hu, conc, goInt]
        · rename_i hv hk
          cases h
          rw [hv] at hx0
          refine ⟨fun w => ?_, by simp [Ok]⟩
          rw [hrun w]
          simp [Builtin.len_, hat, hx0, run_underlying (ty_string hk), conc, goInt]
        · rename_i hk
          cases h
          obtain ⟨e, inf, hu, _⟩ := ty_array hk
          refine ⟨fun w => ?_, by simp [Ok]⟩
          rw [hrun w]
          simp [Builtin.len_, hat, hx0, run_underlying hu, conc, goInt]
        · cases h
      · cases h
    · split at h
      · rename_i x xs hxs
        rw [hxs] at hargs
        have hok : Ok μ x ∧ Oks μ xs := by simpa [Oks] using hargs.2
        have hf := fun w => foldV_sound (P := P) (fun x y z h μ w => maxM_sound x y z h μ w) xs x v h μ w hok.1
        refine ⟨fun w => ?_, (hf default).2⟩
        have : (Builtin.max_ ats typ (args.map a.eval)).run P w = .ok (conc μ v) w := by
          rw [hargs.1]
          simp only [Builtin.max_, concs]
          exact (hf w).1
        simp [execOp, resolve, invoke, builtin, this]
      · cases h
    · split at h
      · rename_i x xs hxs
        rw [hxs] at hargs
        have hok : Ok μ x ∧ Oks μ xs := by simpa [Oks] using hargs.2
        have hf := fun w => foldV_sound (P := P) (fun x y z h μ w => minM_sound x y z h μ w) xs x v h μ w hok.1
        refine ⟨fun w => ?_, (hf default).2⟩
        have : (Builtin.min_ ats typ (args.map a.eval)).run P w = .ok (conc μ v) w := by
          rw [hargs.1]
          simp only [Builtin.min_, concs]
          exact (hf w).1
        simp [execOp, resolve, invoke, builtin, this]
      · cases h
    · cases h
  · cases h

end Go.Proofs.Ytojppdcbnpinbaa.M
