/- The small machine, ninth part: an append is met. -/
import Derived.Test.YtcikcinkjbbnhaaDoorM8
set_option linter.unusedSimpArgs false
set_option linter.unusedVariables false
namespace Go.Proofs.YtcikcinkjbbnhaaDoor.M
open Go

/-- What lies behind an object in its block may be taken into it. -/
theorem Rel.widen {μ H w} (h : Rel μ H w) {p : Nat} {l : Loc} {ob : MO} (hl : μ p = some l) (ho : hget H p = some ob) (hrw : ob.rw = true) {k : Nat} (hk : ob.cells.length + k ≤ l.ext) :
    ∃ extra : List MV, extra.length = k ∧ Rel μ (H.set p (some ⟨ob.cells ++ extra, true⟩)) w ∧ Ext μ H w μ (H.set p (some ⟨ob.cells ++ extra, true⟩)) w := by
  obtain ⟨cs, t, fz, hb, hsz, hlen, hfz, hcell⟩ := h.obj p l ob hl ho
  obtain rfl := hfz hrw
  have hplt := hget_lt ho
  refine ⟨(List.range k).map fun j => .lit (cs.getD (l.off + (ob.cells.length + j)) undef), by simp, ?_, ?_⟩
  · refine ⟨fun q l' hq => by rw [List.length_set]; exact h.bound q l' hq, fun q l' o' hq ho' => ?_, fun q r l1 l2 o1 o2 hq hr h1' h2' hrw' hne => ?_⟩
    · by_cases hpq : p = q
      · subst hpq
        rw [hget_set_same hplt] at ho'
        cases ho'
        rw [hl] at hq
        cases hq
        refine ⟨cs, t, (0, 0), hb, hsz, by simp; omega, fun _ => rfl, fun i v hv => ?_⟩
        by_cases hi : i < ob.cells.length
        · rw [List.getElem?_append_left hi] at hv
          exact hcell i v hv
        · rw [List.getElem?_append_right (by omega), List.getElem?_map, Option.map_eq_some_iff] at hv
          obtain ⟨j, hj, rfl⟩ := hv
          have hjk := (List.getElem?_eq_some_iff.1 hj).1
          simp only [List.length_range] at hjk
          have : j = i - ob.cells.length := by simpa [hjk] using hj.symm
          refine ⟨by simp [Ok], ?_⟩
          have hlt : l.off + i < cs.size := by omega
          have he : ob.cells.length + j = i := by omega
          rw [he]
          simp [conc, Array.getD, hlt]
      · rw [hget_set_ne hpq] at ho'
        exact h.obj q l' o' hq ho'
    · by_cases hpq : p = q
      · subst hpq
        rw [hget_set_ne hne] at h2'
        rw [hl] at hq
        cases hq
        exact h.inj p r l l2 ob o2 hl hr ho h2' hrw hne
      · rw [hget_set_ne hpq] at h1'
        by_cases hpr : p = r
        · subst hpr
          rw [hl] at hr
          cases hr
          exact h.inj q p l1 l o1 ob hq hl h1' ho hrw' hne
        · rw [hget_set_ne hpr] at h2'
          exact h.inj q r l1 l2 o1 o2 hq hr h1' h2' hrw' hne
  · refine ⟨Mle.refl μ, fun _ _ h => .inl h, by simp, Nat.le_refl _, fun b hb' hlt => ?_, fun b hlt hn => rfl, .refl w⟩
    obtain ⟨q, l', o, hq, hoq, hrw', hbb⟩ := hb'
    by_cases hpq : p = q
    · subst hpq
      rw [hl] at hq
      cases hq
      exact ⟨p, l, ob, hl, ho, hrw, hbb⟩
    · rw [hget_set_ne hpq] at hoq
      exact ⟨q, l', o, hq, hoq, hrw', hbb⟩

theorem setL_append : ∀ (vs : List MV) (a b : List MV), b.length = vs.length → setL (a ++ b) a.length vs = a ++ vs
  | [], a, b, h => by
    simp only [List.length_nil, List.length_eq_zero_iff] at h
    subst h
    simp [setL]
  | v :: vs, a, [], h => by simp at h
  | v :: vs, a, x :: b, h => by
    simp only [setL]
    have h1 : (a ++ x :: b).set a.length v = (a ++ [v]) ++ b := by simp
    rw [h1]
    have h2 := setL_append vs (a ++ [v]) b (by simpa using h)
    simp only [List.length_append, List.length_cons, List.length_nil] at h2
    rw [show a.length + 1 = a.length + (0 + 1) by omega, h2]
    simp

/-- An object gets a new number (and leaves out its first cells). -/
theorem Rel.move {μ H w} (h : Rel μ H w) {p : Nat} {l : Loc} {ob : MO} (hl : μ p = some l) (ho : hget H p = some ob) (hrw : ob.rw = true) {o : Nat} (hle : o ≤ ob.cells.length) :
    Rel (bind1 μ H.length ⟨l.b, l.off + o, l.ext - o⟩) (H.set p none ++ [some ⟨ob.cells.drop o, true⟩]) w := by
  have hun : μ H.length = none := h.unbound (Nat.le_refl _)
  have hmle : Mle μ (bind1 μ H.length ⟨l.b, l.off + o, l.ext - o⟩) := bind1_le hun
  obtain ⟨cs, t, fz, hb, hsz, hlen, hfz, hcell⟩ := h.obj p l ob hl ho
  have hold : ∀ q x, q ≠ H.length → hget (H.set p none ++ [some ⟨ob.cells.drop o, true⟩]) q = some x → q ≠ p ∧ hget H q = some x := by
    intro q x hq hx
    have hlt := hget_lt hx
    simp only [List.length_append, List.length_set, List.length_cons, List.length_nil] at hlt
    rw [hget_append (by rw [List.length_set]; omega)] at hx
    exact hget_kill hx
  have hnew : hget (H.set p none ++ [some ⟨ob.cells.drop o, true⟩]) H.length = some ⟨ob.cells.drop o, true⟩ := by
    have := hget_append_new (H := H.set p none) (o := ⟨ob.cells.drop o, true⟩)
    rwa [List.length_set] at this
  refine ⟨fun q l' hq => ?_, fun q l' x hq hx => ?_, fun q r l1 l2 o1 o2 hq hr h1 h2 hrw' hne => ?_⟩
  · simp only [List.length_append, List.length_set, List.length_cons, List.length_nil]
    unfold bind1 at hq
    split at hq
    · omega
    · have := h.bound q l' hq; omega
  · by_cases hqn : q = H.length
    · subst hqn
      rw [hnew] at hx
      cases hx
      simp only [bind1, if_true, Option.some.injEq] at hq
      subst hq
      refine ⟨cs, t, fz, hb, by simp only; omega, by simp; omega, fun _ => hfz hrw, fun i v hv => ?_⟩
      rw [List.getElem?_drop] at hv
      obtain ⟨h1, h2⟩ := hcell _ v hv
      obtain ⟨h3, h4⟩ := ok_mono hmle v h1
      exact ⟨h3, by rw [h4, Nat.add_assoc]; exact h2⟩
    · obtain ⟨hqp, hx'⟩ := hold q x hqn hx
      simp only [bind1, if_neg hqn] at hq
      exact (h.obj q l' x hq hx').mono hmle rfl
  · by_cases hqn : q = H.length
    · subst hqn
      simp only [bind1, if_true, Option.some.injEq] at hq
      subst hq
      obtain ⟨hrp, h2'⟩ := hold r o2 (Ne.symm hne) h2
      simp only [bind1, if_neg (Ne.symm hne)] at hr
      exact h.inj p r l l2 ob o2 hl hr ho h2' hrw (Ne.symm hrp)
    · obtain ⟨hqp, h1'⟩ := hold q o1 hqn h1
      simp only [bind1, if_neg hqn] at hq
      by_cases hrn : r = H.length
      · subst hrn
        simp only [bind1, if_true, Option.some.injEq] at hr
        subst hr
        exact h.inj q p l1 l o1 ob hq hl h1' ho hrw' hqp
      · obtain ⟨hrp, h2'⟩ := hold r o2 hrn h2
        simp only [bind1, if_neg hrn] at hr
        exact h.inj q r l1 l2 o1 o2 hq hr h1' h2' hrw' hne

theorem Ext.move {μ H w} (h : Rel μ H w) {p : Nat} {l : Loc} {ob : MO} (hl : μ p = some l) (ho : hget H p = some ob) (hrw : ob.rw = true) {o : Nat} {ob' : MO} {e : Nat} :
    Ext μ H w (bind1 μ H.length ⟨l.b, l.off + o, e⟩) (H.set p none ++ [some ob']) w := by
  have hun : μ H.length = none := h.unbound (Nat.le_refl _)
  refine ⟨bind1_le hun, fun q l' hq => ?_, by simp, Nat.le_refl _, fun b hb hlt => ?_, fun _ _ _ => rfl, .refl w⟩
  · unfold bind1 at hq
    split at hq
    · exact .inr (by omega)
    · exact .inl hq
  · obtain ⟨q, l', x, hq, hx, hxrw, hbb⟩ := hb
    by_cases hqn : q = H.length
    · subst hqn
      simp only [bind1, if_true, Option.some.injEq] at hq
      subst hq
      exact ⟨p, l, ob, hl, ho, hrw, hbb⟩
    · simp only [bind1, if_neg hqn] at hq
      have hlt := hget_lt hx
      simp only [List.length_append, List.length_set, List.length_cons, List.length_nil] at hlt
      rw [hget_append (by rw [List.length_set]; omega)] at hx
      exact ⟨q, l', x, hq, (hget_kill hx).2, hxrw, hbb⟩

theorem run_append {P : Program} {ρ : Env} {a : Act} {dst typ pos aft grd} {s x : Operand} {ats : Array TypeId} (w : World) :
    (execOp a.eval ⟨dst, .call { callee := .builtin .append, args := #[s, x], argTypes := ats }, typ, pos, aft, grd⟩).run P w =
      ((Builtin.append_ ats typ #[a.eval s, a.eval x]).run P w).andThen fun v w => .ok (.value v) w := by
  simp [execOp, resolve, invoke, builtin]

theorem run_zeroValue' {P : Program} {t : TypeId} {z : List Value} (h : (ty P t).zero = some z) : ∃ v, (∀ w, (zeroValue t).run P w = .ok v w) ∧ v.cells = z.toArray := by
  have h' : ((P.info? t).bind (·.zero)).map (·.cells.toList) = some z := h
  cases hi : P.info? t with
  | none => rw [hi] at h'; simp at h'
  | some i =>
    rw [hi] at h'
    simp only [Option.bind_some, Option.map_eq_some_iff] at h'
    obtain ⟨v, hv, hz⟩ := h'
    exact ⟨v, fun w => by simp [zeroValue, typeInfo, hi, hv], by rw [← hz]⟩

theorem append_grow {P : Program} {ats : Array TypeId} {t t1 e e1 : TypeId} {inf : TypeInfo} {zv : Value} {typ : TypeId} {base : Option Addr} {n c m : Nat} {x : Value} {w : World} {old new : List Value}
    (hat : ats[0]? = some t) (hat1 : ats[1]? = some t1) (hu : P.underlying t = some (.slice e)) (hu1 : P.underlying t1 = some (.slice e1)) (hinf : P.info? e = some inf)
    (hz : ∀ w, (zeroValue e).run P w = .ok zv w) (hlen : (Builtin.lenOf x).run P w = .ok m w) (hold : (Builtin.firstCells inf.size n (.slice base n c)).run P w.drew = .ok old.toArray w.drew)
    (hnew : (Builtin.firstCells inf.size m x).run P w.drew = .ok new.toArray w.drew) (hneed : ¬ n + m ≤ c) (hle : n + m ≤ 2 ^ 36) (hb : 0 < inf.bytes) (hbytes : inf.bytes ≤ 2 ^ 10) :
    ∃ cap, n + m ≤ cap ∧ (Builtin.append_ ats typ #[.slice base n c, x]).run P w =
      .ok (.slice (some ⟨w.heap.size, 0, none⟩) (n + m) cap) { w with heap := w.heap.push (.cells ((old ++ new) ++ (Builtin.zeroCells zv.cells (cap - (n + m))).toList).toArray e), drawn := w.drawn + 1 } := by
  have hroom : ¬ (281474976710656 < (Builtin.nextslicecap (n + m) c : Nat) * inf.bytes) := by
    have := nextcap_le (n + m) c (by omega) hle
    have : Builtin.nextslicecap (n + m) c * inf.bytes ≤ 2 ^ 38 * 2 ^ 10 := Nat.mul_le_mul this hbytes
    omega
  have hbig : ¬ (9223372036854775807 < ((n : Int) + (m : Int)) ∧ inf.bytes = 0) := by omega
  refine ⟨(Question.appendCap (n + m) c e).cut (w.tape w.drawn (Question.appendCap (n + m) c e)), by simp [Question.cut], ?_⟩
  simp [Builtin.append_, hat, hat1, run_underlying hu, run_underlying hu1, run_sizeOf hinf, run_typeInfo hinf, hlen, Question.forced, hneed, hbig, hroom, hold, hnew, hz, newRow]
  have : ∀ Z : Array Value, old.toArray ++ (new.toArray ++ Z) = (old ++ (new ++ Z.toList)).toArray := fun Z => by apply Array.ext'; simp
  rw [this]
  rfl

abbrev AppRes (μ : Mu) (H H' : MH) (w w' : World) (v : Value) (r : Option (List MV × Nat × Nat)) : Prop := match r with
  | none => v = .slice none 0 0 ∧ H' = H ∧ w' = w
  | some (cs, n, esz) => ∃ c μ', n ≤ c ∧ v = conc μ' (.slice H.length 0 n c esz) ∧ Ok μ' (.slice H.length 0 n c esz) ∧ Rel μ' H' w' ∧ Ext μ H w μ' H' w'
theorem append_sound0 {P : Program} {s x : Operand} {ats : Array TypeId} {H H' : MH} {ρ : Env} {r : Option (List MV × Nat × Nat)} (h : appV0 P ats (ev ρ s) (ev ρ x) H = some (r, H'))
    {μ : Mu} {a : Act} {w : World} (ht : Tm μ ρ a) (hr : Rel μ H w) {dst typ pos aft grd} :
    ∃ v w', (execOp a.eval ⟨dst, .call { callee := .builtin .append, args := #[s, x], argTypes := ats }, typ, pos, aft, grd⟩).run P w = .ok (.value v) w' ∧
      AppRes μ H H' w w' v r := by
  rw [run_append (ρ := ρ)]
  have hs := ht.ev s
  have hx := ht.ev x
  unfold appV0 at h
  split at h
  · rename_i t t1 hat hat1
    split at h
    · rename_i esz eb z ei _ _ _ _ hk hk1
      obtain ⟨e, inf, hu, hinf, rfl, rfl, hz, _⟩ := ty_slice hk
      obtain ⟨e1, inf1, hu1, _⟩ := ty_slice hk1
      split at h
      · rename_i new m htail
        obtain ⟨hnok, hnlen, hlen, hfirst⟩ := run_tail htail hx.2 hr (w := w) (P := P)
        have hfirstd := (run_tail htail hx.2 (hr.heap (w' := w.drew) rfl) (P := P)).2.2.2
        rw [hx.1] at hlen hfirst hfirstd
        split at h
        · rename_i hc
          obtain ⟨hesz, hebp, hzl, hone, hbytes⟩ := hc
          obtain ⟨zv, hzv, hzc⟩ := run_zeroValue' (P := P) (t := e) (z := z) (by simp [ty, hinf]; simpa using hz.symm)
          have hnz : (IntKind.i64.max : Int) = 9223372036854775807 := by decide
          split at h
          · rename_i hsv
            rw [hsv] at hs
            have hse : a.eval s = .slice none 0 0 := by rw [← hs.1]; simp [conc]
            split at h
            · rename_i hm
              cases h
              subst hm
              refine ⟨.slice none 0 0, w, ?_, rfl, rfl, rfl⟩
              simp only [Nat.zero_mul, List.length_eq_zero_iff] at hnlen
              subst hnlen
              simp [Builtin.append_, hat, hat1, hse, run_underlying hu, run_underlying hu1, run_sizeOf hinf, hlen, hfirst, Result.andThen]
            · rename_i hm
              split at h
              · rename_i hmle
                cases h
                obtain ⟨c, hmc, hrun⟩ := append_grow (typ := typ) (P := P) (base := none) (n := 0) (c := 0) (old := []) (new := concs μ new) hat hat1 hu hu1 hinf hzv hlen (by simp [Builtin.firstCells]) hfirstd (by omega) (by omega) hebp hbytes
                simp only [Nat.zero_add, List.nil_append] at hmc hrun
                rw [hse, hrun]
                refine ⟨_, _, rfl, c, bind1 μ H.length ⟨w.heap.size, 0, new.length + (Builtin.zeroCells zv.cells (c - m)).toList.length⟩, hmc, ?_, ?_, ?_, ?_⟩
                · simp [conc, loc, bind1]
                · simp only [Ok, bind1, if_true]
                  refine ⟨hmc, _, rfl, ?_⟩
                  have : (Builtin.zeroCells zv.cells (c - m)).size = (c - m) * inf.size := by rw [zeroCells_length, hzc]; simp [hzl]
                  simp only [Array.length_toList, this, hnlen]
                  rw [← Nat.add_mul]
                  have : m + (c - m) = c := by omega
                  rw [this]; omega
                · exact (hr.grow (some ⟨new, true⟩)).bindMore (hr.unbound (Nat.le_refl _)) hget_append_new rfl hnok rfl
                · exact ((Ext.refl μ H w).grow hr (some ⟨new, true⟩)).bind (hr.unbound (Nat.le_refl _)) (Nat.le_refl _) rfl rfl
              · cases h
          · rename_i p o n c z' hsv
            rw [hsv] at hs
            obtain ⟨hnc, l, hl, hle⟩ := by simpa [Ok] using hs.2
            have hse : a.eval s = .slice (some ⟨l.b, l.off + o, none⟩) n c := by rw [← hs.1]; simp [conc, loc_some hl]
            split at h
            · rename_i ob hob
              split at h
              · rename_i hcond
                cases h
                obtain ⟨rfl, hrw, hend, hmle⟩ := hcond
                by_cases hfit : n + m ≤ c
                · -- there is room: the block is written behind the object
                  obtain ⟨cs, t0, fz, hb, hsz, hlen0, hfz, hcell⟩ := hr.obj p l ob hl hob
                  have hroom : ob.cells.length + m * inf.size ≤ l.ext := by
                    have h1 : (n + m) * inf.size ≤ c * inf.size := Nat.mul_le_mul_right _ hfit
                    rw [Nat.add_mul] at h1
                    omega
                  obtain ⟨extra, hexl, hr1, he1⟩ := hr.widen hl hob hrw hroom
                  have hplt := hget_lt hob
                  obtain ⟨w2, hst, hr2, he2⟩ := Rel.stores (P := P) hl new _ w (o + n * inf.size) 0 ⟨ob.cells ++ extra, true⟩ hr1 (hget_set_same hplt _) rfl (by simp; omega) hnok hone
                  rw [List.set_set] at hr2 he2
                  have hset : setL (ob.cells ++ extra) (o + n * inf.size + 0) new = ob.cells ++ new := by
                    rw [Nat.add_zero, hend]
                    exact setL_append new ob.cells extra (by omega)
                  rw [hset] at hr2 he2
                  have ho2 : hget (H.set p (some ⟨ob.cells ++ new, true⟩)) p = some ⟨ob.cells ++ new, true⟩ := hget_set_same hplt _
                  have hole : o ≤ ob.cells.length := by omega
                  have hr3 := hr2.move hl ho2 rfl (o := o) (by simp; omega)
                  have he3 := Ext.move (w := w2) hr2 hl ho2 rfl (o := o) (ob' := ⟨(ob.cells ++ new).drop o, true⟩) (e := l.ext - o)
                  rw [List.set_set, List.length_set] at hr3 he3
                  rw [List.drop_append_of_le_length hole] at hr3 he3
                  refine ⟨.slice (some ⟨l.b, l.off + o, none⟩) (n + m) c, w2, ?_, c, _, hfit, ?_, ?_, hr3, (he1.trans he2).trans he3⟩
                  · rw [hse]
                    have hadd : (⟨l.b, l.off + o, none⟩ : Addr).add (n * inf.size) = ⟨l.b, l.off + (o + n * inf.size), none⟩ := by rw [Addr.add_lit]; simp [Nat.add_assoc]
                    simp [Builtin.append_, hat, hat1, run_underlying hu, run_underlying hu1, run_sizeOf hinf, hlen, hfit, hfirst, hadd, hst]
                  · simp [conc, loc, bind1]
                  · simp only [Ok, bind1, if_true]
                    exact ⟨hfit, _, rfl, by simp only; omega⟩
                · -- a new block
                  have hold : cellsAt H p o (n * inf.size) = some (ob.cells.drop o) := by
                    unfold cellsAt
                    simp only [hob, Option.bind_some]
                    rw [if_pos (by omega)]
                    congr 1
                    rw [List.take_of_length_le (by simp; omega)]
                  have hc1 := (hr.heap (w' := w.drew) rfl).cells (P := P) hl hold
                  obtain ⟨cap, hmc, hrun⟩ := append_grow (typ := typ) (P := P) (base := some ⟨l.b, l.off + o, none⟩) (n := n) (c := c) (old := concs μ (ob.cells.drop o)) (new := concs μ new) hat hat1 hu hu1 hinf hzv hlen
                    (by simp [Builtin.firstCells, hc1.2.1]) hfirstd hfit hmle hebp hbytes
                  rw [hse, hrun]
                  have hcat : concs μ (ob.cells.drop o) ++ concs μ new = concs μ (ob.cells.drop o ++ new) := by simp [concs_map]
                  rw [hcat]
                  refine ⟨_, _, rfl, cap, bind1 μ H.length ⟨w.heap.size, 0, (ob.cells.drop o ++ new).length + (Builtin.zeroCells zv.cells (cap - (n + m))).toList.length⟩, hmc, ?_, ?_, ?_, ?_⟩
                  · simp [conc, loc, bind1]
                  · simp only [Ok, bind1, if_true]
                    refine ⟨hmc, _, rfl, ?_⟩
                    have : (Builtin.zeroCells zv.cells (cap - (n + m))).size = (cap - (n + m)) * inf.size := by rw [zeroCells_length, hzc]; simp [hzl]
                    have hl3 : (ob.cells.drop o ++ new).length = (n + m) * inf.size := by
                      rw [List.length_append, List.length_drop, hnlen, Nat.add_mul]; omega
                    simp only [Array.length_toList, this, hl3]
                    rw [← Nat.add_mul]
                    have : n + m + (cap - (n + m)) = cap := by omega
                    rw [this]; omega
                  · have hk := (hr.kill p).grow (some ⟨ob.cells.drop o ++ new, true⟩)
                    have hnew0 := hget_append_new (H := H.set p none) (o := ⟨ob.cells.drop o ++ new, true⟩)
                    rw [List.length_set] at hnew0
                    exact hk.bindMore (hr.unbound (Nat.le_refl _)) hnew0 rfl (by rw [oks_iff]; intro v hv; rcases List.mem_append.1 hv with h1 | h1; exact (oks_iff μ _).1 hc1.1 v h1; exact (oks_iff μ _).1 hnok v h1) rfl
                  · exact (((Ext.refl μ H w).kill p).grow (hr.kill p) (some ⟨ob.cells.drop o ++ new, true⟩)).bind (hr.unbound (Nat.le_refl _)) (Nat.le_refl _) rfl rfl
              · cases h
            · cases h
          · cases h
        · cases h
      · cases h
    · cases h
  · cases h

theorem append_sound {P : Program} {s x : Operand} {ats : Array TypeId} {H H' : MH} {ρ : Env} {r : Option (List MV × Nat × Nat)} (h : appV P ats (ev ρ s) (ev ρ x) H = some (r, H'))
    {μ : Mu} {a : Act} {w : World} (ht : Tm μ ρ a) (hr : Rel μ H w) {dst typ pos aft grd} :
    ∃ v w', (execOp a.eval ⟨dst, .call { callee := .builtin .append, args := #[s, x], argTypes := ats }, typ, pos, aft, grd⟩).run P w = .ok (.value v) w' ∧
      AppRes μ H H' w w' v r := by
  unfold appV at h
  split at h
  · rename_i u hu
    cases h
    exact append_sound0 hu ht hr
  · have htr : Rel μ (truncH (ev ρ s) H) w ∧ Ext μ H w μ (truncH (ev ρ s) H) w := by
      unfold truncH
      split
      · split
        · rename_i ob ho; exact hr.take ho _
        · exact ⟨hr, Ext.refl _ _ _⟩
      · exact ⟨hr, Ext.refl _ _ _⟩
    obtain ⟨v, w', hrun, hres⟩ := append_sound0 h ht htr.1 (dst := dst) (typ := typ) (pos := pos) (aft := aft) (grd := grd)
    refine ⟨v, w', hrun, ?_⟩
    cases r with
    | none =>
      obtain ⟨rfl, h2, rfl⟩ := hres
      refine ⟨rfl, ?_, rfl⟩
      have hs : ∀ p o n c z, ev ρ s ≠ .slice p o n c z := by
        intro p o n c z he
        rw [he] at h
        unfold appV0 at h
        repeat' split at h
        all_goals first | (cases h; done) | simp_all
      rw [h2]
      unfold truncH
      split
      · rename_i p o n c z he; exact absurd he (hs p o n c z)
      · rfl
    | some u =>
      obtain ⟨cs, n, esz⟩ := u
      obtain ⟨c, μ', h1, h2, h3, h4, h5⟩ := hres
      rw [trunc_len] at h2 h3
      exact ⟨c, μ', h1, h2, h3, h4, htr.2.trans h5⟩

end Go.Proofs.YtcikcinkjbbnhaaDoor.M

/- The small machine, tenth part: calls, one operation after another. -/
set_option linter.unusedSimpArgs false
set_option linter.unusedVariables false
namespace Go.Proofs.YtcikcinkjbbnhaaDoor.M
open Go

/-- The function with these values ends, with a value and a world that fit. -/
def Does (P : Program) (f : FuncId) (xs : Array Value) (w : World) (R : Value → World → Prop) : Prop :=
  match (callFunc f xs).run P w with
  | .ok (.value v) w' => R v w'
  | .ok (.enter g ys) w' => Calls P g ys w' fun e w'' => match e with
    | .returned v => R v w''
    | _ => False
  | _ => False

/-- What a function does to the small memory. -/
def Spec (P : Program) (f : FuncId) (args : List MV) (H : MH) (K : MV → MH → Prop) : Prop :=
  ∀ μ w, Rel μ H w → TabIn μ H w → Oks μ args → Does P f (concs μ args).toArray w fun x w' => ∃ v H' μ', K v H' ∧ x = conc μ' v ∧ Ok μ' v ∧ Rel μ' H' w' ∧ Ext μ H w μ' H' w'

theorem Does.mono {P f xs w} {R R' : Value → World → Prop} (h : Does P f xs w R) (hr : ∀ v w', R v w' → R' v w') : Does P f xs w R' := by
  unfold Does at *
  split at h
  · exact hr _ _ h
  · refine h.mono fun e w'' he => ?_
    cases e with
    | returned v => exact hr _ _ he
    | _ => exact he.elim
  · exact h.elim

theorem Spec.mono {P f args H} {K K' : MV → MH → Prop} (h : Spec P f args H K) (hk : ∀ v H', K v H' → K' v H') : Spec P f args H K' :=
  fun μ w hr hb ha => (h μ w hr hb ha).mono fun x w' ⟨v, H', μ', h1, h2⟩ => ⟨v, H', μ', hk _ _ h1, h2⟩

/-- copy: how many elements, and the memory behind it. -/
def copyV (P : Program) (ats : Array TypeId) (d s : MV) (H : MH) : Option (Nat × MH) :=
  match ats[0]? with
  | some t => match (ty P t).k, d with
    | .slice esz _ _ _, .slice p o n _ z => match hget H p, tailV esz s H with
      | some ob, some (new, m) => if z = esz ∧ ob.rw = true ∧ new.all one = true ∧ o + n * esz ≤ ob.cells.length then some (min m n, H.set p (some ⟨setL ob.cells o (new.take (min m n * esz)), true⟩)) else none
      | _, _ => none
    | _, _ => none
  | none => none
/-- clear: the memory behind it. -/
def clearV (P : Program) (ats : Array TypeId) (x : MV) (H : MH) : Option MH :=
  match ats[0]? with
  | some t => match (ty P t).k, x with
    | .slice esz _ (some z) _, .slice p o n _ zz => match hget H p with
      | some ob => if zz = esz ∧ ob.rw = true ∧ z.length = esz ∧ z.all (fun v => one (.lit v)) = true ∧ o + n * esz ≤ ob.cells.length then some (H.set p (some ⟨setL ob.cells o ((List.range (n * esz)).map fun i => .lit (z.getD (i % z.length) undef)), true⟩)) else none
      | none => none
    | .slice _ _ _ _, .lit (.slice none _ _) => some H
    | _, _ => none
  | none => none

theorem cells_take {H : MH} {p o n k : Nat} {cs : List MV} (h : cellsAt H p o n = some cs) (hk : k ≤ n) : cellsAt H p o k = some (cs.take k) := by
  unfold cellsAt at *
  simp only [Option.bind_eq_some_iff] at *
  obtain ⟨ob, ho, h⟩ := h
  refine ⟨ob, ho, ?_⟩
  split at h
  · cases h
    rw [if_pos (by omega), List.take_take, Nat.min_eq_left hk]
  · cases h
theorem run_first {P : Program} {esz : Nat} {x : MV} {H : MH} {new : List MV} {m k : Nat} (h : tailV esz x H = some (new, m)) (hk : k ≤ m) {μ : Mu} {w : World} (hx : Ok μ x) (hr : Rel μ H w) :
    (Builtin.firstCells esz k (conc μ x)).run P w = .ok (concs μ (new.take (k * esz))).toArray w := by
  unfold tailV at h
  split at h
  · rename_i q
    cases h
    cases q <;> simp_all [concs, conc, Builtin.firstCells, loadCells, loadCellsFrom]
  · rename_i p o n c z
    split at h
    · rename_i hz
      subst hz
      simp only [Option.map_eq_some_iff, Prod.mk.injEq] at h
      obtain ⟨cs, hcs, rfl, rfl⟩ := h
      obtain ⟨hn, l, hl, hle⟩ := by simpa [Ok] using hx
      have h2 := (hr.cells (P := P) hl (cells_take hcs (Nat.mul_le_mul_right z hk))).2.1
      simp [conc, loc_some hl, Builtin.firstCells, h2]
    · cases h
  · rename_i s
    split at h
    · rename_i hz
      subst hz
      cases h
      simp only [conc, Builtin.firstCells, concs_map, List.map_map, Sem.run_pure, Nat.mul_one, ← List.map_take]
      congr 1
      apply Array.ext'
      simp [ByteArray.extract, Function.comp_def, conc, ByteArray.copySlice, List.extract]
    · cases h
  · cases h
theorem all_take {vs : List MV} {k : Nat} (h : vs.all one = true) : (vs.take k).all one = true := by
  rw [List.all_eq_true] at *
  exact fun x hx => h x (List.mem_of_mem_take hx)
theorem copy_sound {P : Program} {d s : Operand} {ats : Array TypeId} {H H' : MH} {ρ : Env} {n : Nat} (h : copyV P ats (ev ρ d) (ev ρ s) H = some (n, H'))
    {μ : Mu} {a : Act} {w : World} (ht : Tm μ ρ a) (hr : Rel μ H w) {dst typ pos aft grd} :
    ∃ w', (execOp a.eval ⟨dst, .call { callee := .builtin .copy, args := #[d, s], argTypes := ats }, typ, pos, aft, grd⟩).run P w = .ok (.value (.int .i64 n)) w' ∧ Rel μ H' w' ∧ Ext μ H w μ H' w' := by
  have hd := ht.ev d
  have hs := ht.ev s
  unfold copyV at h
  split at h
  · rename_i t hat
    split at h
    · rename_i esz eb ez ei p o k c z hk hv
      obtain ⟨e, inf, hu, hinf, rfl, _⟩ := ty_slice hk
      rw [hv] at hd
      obtain ⟨hn, l, hl, hle⟩ := by simpa [Ok] using hd.2
      have hde : a.eval d = .slice (some ⟨l.b, l.off + o, none⟩) k c := by rw [← hd.1]; simp [conc, loc_some hl]
      split at h
      · rename_i ob new m hob htl
        split at h
        · rename_i hc
          cases h
          obtain ⟨rfl, hrw, hone, hlen⟩ := hc
          obtain ⟨h1, h2, h3, _⟩ := run_tail htl hs.2 hr (P := P) (w := w)
          have h4 := run_first htl (Nat.min_le_left m k) hs.2 hr (P := P) (w := w)
          have hmin : min m k * inf.size ≤ k * inf.size := Nat.mul_le_mul_right _ (Nat.min_le_right m k)
          have hlt : (new.take (min m k * inf.size)).length ≤ min m k * inf.size := by rw [List.length_take]; omega
          obtain ⟨w', hst, hr', he⟩ := Rel.stores (P := P) hl (new.take (min m k * inf.size)) H w o 0 ob hr hob hrw (by omega) (by rw [oks_iff]; exact fun v hv => (oks_iff μ _).1 h1 v (List.mem_of_mem_take hv)) (all_take hone)
          refine ⟨w', ?_, hr', he⟩
          rw [hs.1] at h3 h4
          have hnm : Nat.min m k = min m k := rfl
          simp [execOp, resolve, invoke, builtin, Builtin.copy_, hat, hde, run_underlying hu, h3, run_sizeOf hinf, hnm, h4, hst, goInt]
        · cases h
      · cases h
    · cases h
  · cases h
theorem clear_sound {P : Program} {x : Operand} {ats : Array TypeId} {H H' : MH} {ρ : Env} (h : clearV P ats (ev ρ x) H = some H')
    {μ : Mu} {a : Act} {w : World} (ht : Tm μ ρ a) (hr : Rel μ H w) {dst typ pos aft grd} :
    ∃ w', (execOp a.eval ⟨dst, .call { callee := .builtin .clear, args := #[x], argTypes := ats }, typ, pos, aft, grd⟩).run P w = .ok (.value (.tuple #[])) w' ∧ Rel μ H' w' ∧ Ext μ H w μ H' w' := by
  have hx := ht.ev x
  unfold clearV at h
  split at h
  · rename_i t hat
    split at h
    · rename_i esz eb z ei p o k c zz hk hv
      obtain ⟨e, inf, hu, hinf, rfl, rfl, hz, _⟩ := ty_slice hk
      rw [hv] at hx
      obtain ⟨hn, l, hl, hle⟩ := by simpa [Ok] using hx.2
      have hxe : a.eval x = .slice (some ⟨l.b, l.off + o, none⟩) k c := by rw [← hx.1]; simp [conc, loc_some hl]
      split at h
      · rename_i ob hob
        split at h
        · rename_i hc
          cases h
          obtain ⟨rfl, hrw, hzl, hone, hlen⟩ := hc
          obtain ⟨zv, hzv, hzc⟩ := run_zeroValue (P := P) (t := e) (z := z) (by simp [ty, hinf]; simpa using hz.symm) w
          have hok : ∀ v ∈ ((List.range (k * inf.size)).map fun i => MV.lit (z.getD (i % z.length) undef)), Ok μ v := by
            intro v hv; simp only [List.mem_map] at hv; obtain ⟨i, _, rfl⟩ := hv; simp [Ok]
          have hon : ((List.range (k * inf.size)).map fun i => MV.lit (z.getD (i % z.length) undef)).all one = true := by
            rw [List.all_eq_true]
            intro v hv
            simp only [List.mem_map, List.mem_range] at hv
            obtain ⟨i, hi, rfl⟩ := hv
            have hpos : 0 < z.length := by
              rw [hzl]; exact Nat.pos_of_ne_zero fun h => by rw [h] at hi; omega
            have hm : i % z.length < z.length := Nat.mod_lt _ hpos
            have := List.all_eq_true.1 hone (z.getD (i % z.length) undef) (by rw [List.getD_eq_getElem?_getD, List.getElem?_eq_getElem hm]; exact List.getElem_mem hm)
            exact this
          obtain ⟨w', hst, hr', he⟩ := Rel.stores (P := P) hl _ H w o 0 ob hr hob hrw (by simp; omega) ((oks_iff μ _).2 hok) hon
          refine ⟨w', ?_, hr', he⟩
          have hcc : (concs μ ((List.range (k * inf.size)).map fun i => MV.lit (z.getD (i % z.length) undef))) = (Builtin.zeroCells zv.cells k).toList := by
            rw [concs_map, List.map_map, hzc]
            simp only [Builtin.zeroCells, Array.toList_map, Array.toList_range, List.size_toArray, hzl]
            refine List.map_congr_left fun i hi => ?_
            have hi2 := List.mem_range.1 hi
            have hpos : 0 < z.length := by
              rw [hzl]; exact Nat.pos_of_ne_zero fun h => by rw [h] at hi2; omega
            have hm : i % z.length < z.length := Nat.mod_lt _ hpos
            rw [hzl] at hm
            simp [conc, List.getD, hzl, hm]
          rw [hcc] at hst
          by_cases h0 : k = 0
          · subst h0
            have : (Builtin.zeroCells zv.cells 0).toList = [] := by simp [Builtin.zeroCells]
            rw [this] at hst
            simp [storeCells] at hst
            subst hst
            simp [execOp, resolve, invoke, builtin, Builtin.clear_, hat, hxe, run_underlying hu]
          · simp [execOp, resolve, invoke, builtin, Builtin.clear_, hat, hxe, run_underlying hu, hzv, hst]
        · cases h
      · cases h
    · rename_i esz eb z ei k c hk hv
      cases h
      rw [hv] at hx
      obtain ⟨e, inf, hu, hinf, _⟩ := ty_slice hk
      have hxe : a.eval x = .slice none k c := by rw [← hx.1]; simp [conc]
      refine ⟨w, ?_, hr, Ext.refl _ _ _⟩
      simp [execOp, resolve, invoke, builtin, Builtin.clear_, hat, hxe, run_underlying hu]
    · cases h
  · cases h

/-- What an operation that writes or calls does. -/
def effM (P : Program) (o : Op) (ρ : Env) (H : MH) (K : MV → MH → Prop) : Prop :=
  match o with
  | .store t x y => match storeV P t (ev ρ x) (ev ρ y) H with
    | some H' => K (.lit undef) H'
    | none => False
  | .call { callee := .value f, args, .. } => match ev ρ f with
    | .fn (.func g) a b => Spec P g (a ++ evs ρ args ++ b) H K
    | _ => False
  | .call { callee := .builtin .append, args := ⟨[s, x]⟩, argTypes } => match appV P argTypes (ev ρ s) (ev ρ x) H with
    | some (none, H') => K (.lit (.slice none 0 0)) H'
    | some (some (cs, n, esz), H') => ∀ c, n ≤ c → K (.slice H.length 0 n c esz) H'
    | none => False
  | .call { callee := .builtin .copy, args := ⟨[d, s]⟩, argTypes } => match copyV P argTypes (ev ρ d) (ev ρ s) H with
    | some (n, H') => K (.lit (.int .i64 n)) H'
    | none => False
  | .call { callee := .builtin .clear, args := ⟨[x]⟩, argTypes } => match clearV P argTypes (ev ρ x) H with
    | some H' => K (.tup []) H'
    | none => False
  | _ => False

inductive Cls where
  | pure | load | alloc | eff
  deriving DecidableEq

def cls : Op → Cls
  | .load .. => .load
  | .alloc _ | .box .. | .buildSlice .. | .makeSlice .. => .alloc
  | .store .. => .eff
  | .call { callee := .value _, .. } => .eff
  | .call { callee := .builtin .append, .. } => .eff
  | .call { callee := .builtin .copy, .. } => .eff
  | .call { callee := .builtin .clear, .. } => .eff
  | _ => .pure

def loadO (P : Program) (o : Op) (ρ : Env) (H : MH) : Option MV := match o with
  | .load t x => loadV P t (ev ρ x) H
  | _ => none

/-- One operation. -/
def stepM (P : Program) (o : Op) (ρ : Env) (H : MH) (K : MV → MH → Prop) : Prop :=
  match cls o with
  | .pure => ∃ v, pureV P o ρ = some v ∧ K v H
  | .load => ∃ v, loadO P o ρ H = some v ∧ K v H
  | .alloc => ∃ cs f, allocV P o ρ = some (cs, f) ∧ K (f H.length) (H ++ [some ⟨cs, true⟩])
  | .eff => effM P o ρ H K

theorem call_run {P : Program} {a : Act} {dst typ pos aft grd} {f : Operand} {args : Array Operand} {ats : Array TypeId} {g : FuncId} {xs ys : Array Value} (hf : a.eval f = .func (.func g) xs ys) (w : World) :
    (execOp a.eval ⟨dst, .call { callee := .value f, args := args, argTypes := ats }, typ, pos, aft, grd⟩).run P w = (callFunc g (xs ++ args.map a.eval ++ ys)).run P w := by
  simp [execOp, resolve, hf, Deferred.ofValue, invoke]

theorem eff_sound {P : Program} {o : Oper} {ρ : Env} {H : MH} {K : MV → MH → Prop} (h : effM P o.op ρ H K) {μ : Mu} {a : Act} {w : World} (ht : Tm μ ρ a) (hr : Rel μ H w) (hb : TabIn μ H w)
    {next : Act → World → Prop} {Q : Exit → Act → World → Prop}
    (hn : ∀ v H' μ' w', K v H' → Ok μ' v → Rel μ' H' w' → Ext μ H w μ' H' w' → next (a.put o.dst (conc μ' v)) w') : o.wp P a w next Q := by
  obtain ⟨dst, op, typ, pos, aft, grd⟩ := o
  simp only at h hn
  unfold effM at h
  unfold Oper.wp
  split at h
  · rename_i t x y
    split at h
    · rename_i H' hs
      obtain ⟨w', hrun, hr', he⟩ := store_sound (P := P) hs ht hr ⟨dst, .store t x y, typ, pos, aft, grd⟩ rfl
      rw [hrun, Oper.upon_skip]
      have := hn _ _ μ w' h (by simp [Ok]) hr' he
      simpa [conc] using this
    · exact h.elim
  · rename_i f args ats
    split at h
    · rename_i g xs ys hf
      have hfe := ht.ev f
      rw [hf] at hfe
      have hfe1 : a.eval f = .func (.func g) (concs μ xs).toArray (concs μ ys).toArray := by rw [← hfe.1]; simp [conc]
      have hargs := ht.evs args
      have hok : Oks μ (xs ++ evs ρ args ++ ys) := by
        have : Oks μ xs ∧ Oks μ ys := by simpa [Ok] using hfe.2
        rw [oks_iff]
        intro v hv
        simp only [List.mem_append] at hv
        rcases hv with (h1 | h1) | h1
        · exact (oks_iff μ xs).1 this.1 v h1
        · exact (oks_iff μ _).1 hargs.2 v h1
        · exact (oks_iff μ ys).1 this.2 v h1
      have hd := h μ w hr hb hok
      have hall : (concs μ (xs ++ evs ρ args ++ ys)).toArray = (concs μ xs).toArray ++ args.map a.eval ++ (concs μ ys).toArray := by
        rw [hargs.1]; simp [concs_map]
      rw [hall] at hd
      rw [call_run hfe1]
      unfold Does at hd
      split at hd
      · rename_i v w' hrun
        rw [hrun, Oper.upon_value]
        obtain ⟨u, H', μ', hk, rfl, hok', hr', he⟩ := hd
        exact hn u H' μ' w' hk hok' hr' he
      · rename_i g' zs w' hrun
        rw [hrun, Oper.upon_enter]
        refine hd.mono fun e w'' he => ?_
        cases e with
        | returned v =>
          obtain ⟨u, H', μ', hk, rfl, hok', hr', he⟩ := he
          exact hn u H' μ' w'' hk hok' hr' he
        | panicked c => exact he.elim
        | outgrown => exact he.elim
      · exact hd.elim
    · exact h.elim
  · rename_i s x ats
    split at h
    · rename_i H' happ
      obtain ⟨v, w', hrun, hv, rfl, rfl⟩ := append_sound (P := P) happ ht hr (dst := dst) (typ := typ) (pos := pos) (aft := aft) (grd := grd)
      rw [hrun, Oper.upon_value, hv]
      have := hn _ _ μ w' h (by simp [Ok]) hr (Ext.refl _ _ _)
      simpa [conc] using this
    · rename_i cs n esz H' happ
      obtain ⟨v, w', hrun, c, μ', hc, hv, hok, hr', he⟩ := append_sound (P := P) happ ht hr (dst := dst) (typ := typ) (pos := pos) (aft := aft) (grd := grd)
      rw [hrun, Oper.upon_value, hv]
      exact hn _ _ μ' w' (h c hc) hok hr' he
    · exact h.elim
  · rename_i d s ats
    split at h
    · rename_i n H' hc
      obtain ⟨w', hrun, hr', he⟩ := copy_sound (P := P) hc ht hr (dst := dst) (typ := typ) (pos := pos) (aft := aft) (grd := grd)
      rw [hrun, Oper.upon_value]
      have := hn _ _ μ w' h (by simp [Ok]) hr' he
      simpa [conc] using this
    · exact h.elim
  · rename_i x ats
    split at h
    · rename_i H' hc
      obtain ⟨w', hrun, hr', he⟩ := clear_sound (P := P) hc ht hr (dst := dst) (typ := typ) (pos := pos) (aft := aft) (grd := grd)
      rw [hrun, Oper.upon_value]
      have := hn _ _ μ w' h (by simp [Ok, Oks]) hr' he
      simpa [conc, concs] using this
    · exact h.elim
  · exact h.elim

theorem step_sound {P : Program} {o : Oper} {ρ : Env} {H : MH} {K : MV → MH → Prop} (h : stepM P o.op ρ H K) {μ : Mu} {a : Act} {w : World} (ht : Tm μ ρ a) (hr : Rel μ H w) (hb : TabIn μ H w)
    {next : Act → World → Prop} {Q : Exit → Act → World → Prop}
    (hn : ∀ v H' μ' w', K v H' → Ok μ' v → Rel μ' H' w' → Ext μ H w μ' H' w' → next (a.put o.dst (conc μ' v)) w') : o.wp P a w next Q := by
  unfold stepM at h
  split at h
  · obtain ⟨v, hv, hk⟩ := h
    have := pure_sound hv ht
    unfold Oper.wp
    rw [this.1 w, Oper.upon_value]
    exact hn v H μ w hk this.2 hr (Ext.refl _ _ _)
  · obtain ⟨v, hv, hk⟩ := h
    unfold loadO at hv
    split at hv
    · rename_i t x he
      have := load_sound hv ht hr hb o he
      unfold Oper.wp
      rw [this.1, Oper.upon_value]
      exact hn v H μ w hk this.2 hr (Ext.refl _ _ _)
    · cases hv
  · obtain ⟨cs, f, hv, hk⟩ := h
    obtain ⟨hok, v, t, hrun, hval⟩ := alloc_sound hv ht w
    unfold Oper.wp
    rw [hrun, Oper.upon_value]
    have hun := hr.unbound (Nat.le_refl H.length)
    have hbb := (hr.grow (some ⟨cs, true⟩)).bind hun hget_append_new (cs := (concs μ cs).toArray) (t := t) rfl hok (w' := { w with heap := w.heap.push (.cells (concs μ cs).toArray t) }) rfl
    have he := ((Ext.refl μ H w).grow hr (some ⟨cs, true⟩)).bind hun (Nat.le_refl _) (l := ⟨w.heap.size, 0, cs.length⟩) (x := .cells (concs μ cs).toArray t) rfl (w' := { w with heap := w.heap.push (.cells (concs μ cs).toArray t) }) rfl
    obtain ⟨h1, h2⟩ := hval _ H.length (show bind1 μ H.length ⟨w.heap.size, 0, cs.length⟩ H.length = _ by simp [bind1])
    rw [← h1]
    exact hn _ _ _ _ hk h2 hbb he
  · exact eff_sound h ht hr hb hn

/-- Is a guarded operation carried out? -/
def wantedM (full : List Oper) (o : Oper) (ρ : Env) : Bool :=
  match o.guard with
  | none => true
  | some (j, want) => match (full[j]?).bind (·.dst) with
    | some d => asB (ρ d) == some want
    | none => false

theorem asB_conc {μ : Mu} {v : MV} {b : Bool} : asB v = some b ↔ conc μ v = .bool b := by
  cases v with
  | lit v => cases v <;> simp [asB, conc]
  | _ => simp [asB, conc]

theorem wanted_sound {full : Array Oper} {o : Oper} {ρ : Env} {μ : Mu} {a : Act} (ht : Tm μ ρ a) : Region.wanted o (yielded full a.tmps) = wantedM full.toList o ρ := by
  unfold Region.wanted wantedM
  cases hg : o.guard with
  | none => rfl
  | some jw =>
    obtain ⟨j, want⟩ := jw
    simp only [yielded]
    have hj : full.toList[j]? = full[j]? := by simp
    rw [hj]
    cases hd : (full[j]?).bind (·.dst) with
    | none => simp
    | some d =>
      simp only [Option.bind_some]
      have hv := ht.val d
      cases ht' : a.tmps[d]? with
      | none =>
        have : conc μ (ρ d) = undef := by rw [hv]; simp [Array.getD_eq_getD_getElem?, ht']
        cases hb : asB (ρ d) with
        | none => simp
        | some b => rw [asB_conc (μ := μ), this] at hb; cases hb
      | some x =>
        have : conc μ (ρ d) = x := by rw [hv]; simp [Array.getD_eq_getD_getElem?, ht']
        cases hb : asB (ρ d) with
        | none =>
          cases x with
          | bool b => have := (asB_conc (μ := μ)).2 this; rw [this] at hb; cases hb
          | _ => simp
        | some b =>
          have := (asB_conc (μ := μ)).1 hb ▸ this
          subst this
          simp

def mops (P : Program) (full : List Oper) : List Oper → Env → MH → (Env → MH → Prop) → Prop
  | [], ρ, H, K => K ρ H
  | o :: rest, ρ, H, K =>
    if wantedM full o ρ = true then stepM P o.op ρ H fun v H' => mops P full rest (put ρ o.dst v) H' K
    else mops P full rest (put ρ o.dst (.lit undef)) H K

/-- The state of a walk, seen from where it began. -/
structure St (N : Nat) (μ0 : Mu) (H0 : MH) (w0 : World) (ρ : Env) (H : MH) (μ : Mu) (a : Act) (w : World) : Prop where
  tm : Tm μ ρ a
  sz : a.tmps.size = N
  df : a.defers = []
  rel : Rel μ H w
  ext : Ext μ0 H0 w0 μ H w

def opsOk (N : Nat) (l : List Oper) : Bool := l.all fun o => o.dst.all (· < N)

theorem put_size (a : Act) (d : Option Tmp) (v : Value) : (a.put d v).tmps.size = a.tmps.size := by cases d <;> simp [Act.put]
theorem put_defers (a : Act) (d : Option Tmp) (v : Value) : (a.put d v).defers = a.defers := by cases d <;> simp [Act.put]

theorem mops_sound {P : Program} {full : Array Oper} {N : Nat} {μ0 : Mu} {H0 : MH} {w0 : World} (hb : TabIn μ0 H0 w0) {K : Env → MH → Prop} {Q : Exit → Act → World → Prop}
    (hQ : ∀ ρ H μ a w, K ρ H → St N μ0 H0 w0 ρ H μ a w → Q .normal a w) :
    ∀ (n : Nat) (k : Nat) (ρ : Env) (H : MH) (μ : Mu) (a : Act) (w : World), k + n = full.size → opsOk N (full.toList.drop k) = true → mops P full.toList (full.toList.drop k) ρ H K → St N μ0 H0 w0 ρ H μ a w →
      wpOps P full Q ((List.range' k n)) a w
  | 0, k, ρ, H, μ, a, w, hk, hok, h, hs => by
    rw [List.drop_of_length_le (by simp; omega)] at h
    exact hQ ρ H μ a w h hs
  | n + 1, k, ρ, H, μ, a, w, hk, hok, h, hs => by
    have hlt : k < full.toList.length := by simp; omega
    rw [List.drop_eq_getElem_cons hlt] at h hok
    simp only [opsOk, List.all_cons, Bool.and_eq_true] at hok
    simp only [mops] at h
    rw [List.range'_succ, wpOps_cons]
    unfold wpOp
    have hget : full[k]? = some full.toList[k] := by simp at hlt; simp [hlt]
    rw [hget]
    simp only
    have hd : ∀ t, full.toList[k].dst = some t → t < a.tmps.size := by
      intro t he
      have h1 := hok.1
      rw [he] at h1
      rw [hs.sz]
      simpa using h1
    rw [wanted_sound hs.tm]
    split
    · rename_i hw
      rw [if_pos hw] at h
      refine .inl (step_sound h hs.tm hs.rel (hb.ext hs.ext) fun v H' μ' w' hk' hv hr he => ?_)
      exact mops_sound hb hQ n (k + 1) _ H' μ' _ w' (by omega) hok.2 hk'
        ⟨(hs.tm.mono he.mono).put _ hd hv, by rw [put_size]; exact hs.sz, by rw [put_defers]; exact hs.df, hr, hs.ext.trans he⟩
    · rename_i hw
      rw [if_neg hw] at h
      have := hs.tm.put full.toList[k].dst hd (v := .lit undef) (by simp [Ok])
      rw [conc] at this
      exact mops_sound hb hQ n (k + 1) _ H μ _ w (by omega) hok.2 h ⟨this, by rw [put_size]; exact hs.sz, by rw [put_defers]; exact hs.df, hs.rel, hs.ext⟩

end Go.Proofs.YtcikcinkjbbnhaaDoor.M

/- The small machine, eleventh part: a statement whose order of evaluation is drawn may be walked in one order that is told ahead: what may be checked of the order by looking at the text alone. -/
set_option linter.unusedSimpArgs false
set_option linter.unusedVariables false
namespace Go.Proofs.YtcikcinkjbbnhaaDoor.M
open Go

/-- Operation i waits for operation j, by a chain of edges. -/
inductive Anc (ops : Array Oper) : Nat → Nat → Prop
  | edge {i o e} : ops[i]? = some o → e ∈ o.after → Region.binds .any e = true → Anc ops e.on i
  | step {i o e j} : ops[i]? = some o → e ∈ o.after → Region.binds .any e = true → Anc ops j e.on → Anc ops j i

def mask (o : Oper) (acc : Array Nat) : Nat := o.after.toList.foldl (fun s e => if Region.binds .any e then s ||| (1 <<< e.on ||| acc.getD e.on 0) else s) 0
def bef : List Oper → Array Nat → Array Nat
  | [], acc => acc
  | o :: os, acc => bef os (acc.push (mask o acc))

theorem mask_spec {ops : Array Oper} {i : Nat} {o : Oper} (ho : ops[i]? = some o) {acc : Array Nat} (hacc : ∀ k j, (acc.getD k 0).testBit j = true → Anc ops j k) :
    ∀ (l : List Edge) (s : Nat), (∀ e ∈ l, e ∈ o.after) → (∀ j, s.testBit j = true → Anc ops j i) →
      ∀ j, (l.foldl (fun s e => if Region.binds .any e then s ||| (1 <<< e.on ||| acc.getD e.on 0) else s) s).testBit j = true → Anc ops j i
  | [], s, _, hs, j, h => hs j h
  | e :: l, s, hl, hs, j, h => by
    rw [List.foldl_cons] at h
    refine mask_spec ho hacc l _ (fun e' he' => hl e' (List.mem_cons_of_mem _ he')) ?_ j h
    intro j hj
    split at hj
    · rename_i hb
      rw [Nat.testBit_or, Nat.testBit_or, Bool.or_eq_true, Bool.or_eq_true] at hj
      rcases hj with h1 | h1 | h1
      · exact hs j h1
      · have : j = e.on := by
          rw [Nat.testBit_shiftLeft] at h1
          simp only [Bool.and_eq_true, decide_eq_true_eq] at h1
          rcases Nat.lt_or_ge 0 (j - e.on) with h2 | h2
          · have h3 := h1.2
            rw [Nat.testBit_one_eq_true_iff_self_eq_zero] at h3
            omega
          · omega
        subst this
        exact .edge ho (hl e (List.mem_cons_self ..)) hb
      · exact .step ho (hl e (List.mem_cons_self ..)) hb (hacc _ j h1)
    · exact hs j hj

theorem bef_spec {ops : Array Oper} : ∀ (l : List Oper) (acc : Array Nat), (∀ k, l[k]? = ops[acc.size + k]?) → (∀ k j, (acc.getD k 0).testBit j = true → Anc ops j k) →
    ∀ k j, ((bef l acc).getD k 0).testBit j = true → Anc ops j k
  | [], acc, _, h, k, j, hj => h k j hj
  | o :: l, acc, hl, h, k, j, hj => by
    refine bef_spec l (acc.push (mask o acc)) (fun k => ?_) ?_ k j hj
    · have := hl (k + 1)
      simp only [List.getElem?_cons_succ] at this
      rw [this, Array.size_push]
      congr 1; omega
    · intro k j hj
      have ho : ops[acc.size]? = some o := by have := hl 0; simpa using this.symm
      by_cases hk : k = acc.size
      · subst hk
        have hj' : (mask o acc).testBit j = true := by simpa [Array.getD_eq_getD_getElem?] using hj
        exact mask_spec ho h o.after.toList 0 (fun e he => Array.mem_toList_iff.1 he) (fun j h => by simp at h) j hj'
      · refine h k j ?_
        rw [Array.getD_eq_getD_getElem?, Array.getElem?_push, if_neg hk] at hj
        rwa [Array.getD_eq_getD_getElem?]

def befs (ops : Array Oper) : Array Nat := bef ops.toList #[]
theorem befs_spec {ops : Array Oper} {k j : Nat} (h : ((befs ops).getD k 0).testBit j = true) : Anc ops j k :=
  bef_spec ops.toList #[] (fun k => by simp) (fun k j h => by simp [Array.getD_eq_getD_getElem?] at h) k j h

def vchk (ops : Array Oper) (b : Array Nat) : List Nat → List (Nat × List Nat) → Bool
  | _, [] => true
  | pre, (i, L) :: rest => match ops[i]? with
    | none => false
    | some o =>
      !pre.contains i && o.after.all (fun e => !Region.binds .any e || pre.contains e.on) &&
      pre.all (fun j => match ops[j]? with
        | some oj => (cls oj.op != .eff || (b.getD i 0).testBit j) && (cls o.op != .eff || cls oj.op == .pure || cls oj.op == .eff || (b.getD i 0).testBit j || L.contains j)
        | none => false) &&
      vchk ops b (pre ++ [i]) rest

def ssaB (ops : Array Oper) (b : Array Nat) : Bool :=
  (List.range ops.size).all fun i => (List.range ops.size).all fun j => i == j || match ops[i]?, ops[j]? with
    | some oi, some oj => match oj.dst with
      | some d => oi.dst != some d && (!(oi.looksAt ops).contains d || (b.getD i 0).testBit j || (b.getD j 0).testBit i)
      | none => true
    | _, _ => true

/-- The order pl may be walked. -/
def vok (ops : Array Oper) (pl : List (Nat × List Nat)) : Bool :=
  let b := befs ops
  let is := pl.map (·.1)
  (List.range ops.size).all (fun i => is.contains i) && vchk ops b [] pl && ssaB ops b && Region.noSelect ops

structure VOk (ops : Array Oper) (pl : List (Nat × List Nat)) : Prop where
  all : ∀ i, i < ops.size → i ∈ pl.map (·.1)
  top : ∀ p q i L, pl = p ++ (i, L) :: q → ∃ o, ops[i]? = some o ∧ i ∉ p.map (·.1) ∧ (∀ e ∈ o.after, Region.binds .any e = true → e.on ∈ p.map (·.1)) ∧
    (∀ j ∈ p.map (·.1), ∀ oj, ops[j]? = some oj → (cls oj.op = .eff → Anc ops j i) ∧ (cls o.op = .eff → (cls oj.op = .load ∨ cls oj.op = .alloc) → Anc ops j i ∨ j ∈ L))
  ssa : ∀ i j oi oj d, i ≠ j → ops[i]? = some oi → ops[j]? = some oj → oj.dst = some d → oi.dst ≠ some d ∧ (d ∈ oi.looksAt ops → Anc ops j i ∨ Anc ops i j)

theorem vchk_spec {ops : Array Oper} {b : Array Nat} (hb : ∀ k j, (b.getD k 0).testBit j = true → Anc ops j k) : ∀ (pl : List (Nat × List Nat)) (pre : List Nat), vchk ops b pre pl = true →
    ∀ p q i L, pl = p ++ (i, L) :: q → ∃ o, ops[i]? = some o ∧ i ∉ pre ++ p.map (·.1) ∧ (∀ e ∈ o.after, Region.binds .any e = true → e.on ∈ pre ++ p.map (·.1)) ∧
    (∀ j ∈ pre ++ p.map (·.1), ∀ oj, ops[j]? = some oj → (cls oj.op = .eff → Anc ops j i) ∧ (cls o.op = .eff → (cls oj.op = .load ∨ cls oj.op = .alloc) → Anc ops j i ∨ j ∈ L))
  | [], pre, _, p, q, i, L, he => by cases p <;> cases he
  | (i0, L0) :: pl, pre, h, [], q, i, L, he => by
    simp only [List.nil_append, List.cons.injEq, Prod.mk.injEq] at he
    obtain ⟨⟨rfl, rfl⟩, rfl⟩ := he
    simp only [vchk] at h
    cases ho : ops[i0]? with
    | none => rw [ho] at h; simp at h
    | some o =>
      rw [ho] at h
      simp only [Bool.and_eq_true, Bool.not_eq_true', List.contains_eq_mem, decide_eq_false_iff_not] at h
      obtain ⟨⟨⟨h1, h2⟩, h3⟩, h4⟩ := h
      refine ⟨o, rfl, by simpa using h1, fun e he hbd => ?_, fun j hj oj hoj => ?_⟩
      · have := Array.all_eq_true_iff_forall_mem.1 h2 e he
        simpa [hbd] using this
      · have h5 := List.all_eq_true.1 h3 j (by simpa using hj)
        rw [hoj] at h5
        simp only [Bool.and_eq_true, Bool.or_eq_true, bne_iff_ne, ne_eq, beq_iff_eq, decide_eq_true_eq] at h5
        refine ⟨fun hc => ?_, fun hc hcl => ?_⟩
        · rcases h5.1 with h6 | h6
          · exact absurd hc h6
          · exact hb _ _ h6
        · rcases h5.2 with (((h6 | h6) | h6) | h6) | h6
          · exact absurd hc h6
          · rw [h6] at hcl; rcases hcl with h | h <;> cases h
          · rw [h6] at hcl; rcases hcl with h | h <;> cases h
          · exact .inl (hb _ _ h6)
          · exact .inr h6
  | (i0, L0) :: pl, pre, h, (i1, L1) :: p, q, i, L, he => by
    simp only [List.cons_append, List.cons.injEq, Prod.mk.injEq] at he
    obtain ⟨⟨rfl, rfl⟩, rfl⟩ := he
    simp only [vchk] at h
    cases ho : ops[i0]? with
    | none => rw [ho] at h; simp at h
    | some o =>
      rw [ho] at h
      simp only [Bool.and_eq_true] at h
      obtain ⟨o', h1, h2, h3, h4⟩ := vchk_spec hb _ (pre ++ [i0]) h.2 p q i L rfl
      exact ⟨o', h1, by simpa using h2, by simpa using h3, by simpa using h4⟩

theorem vok_spec {ops : Array Oper} {pl : List (Nat × List Nat)} (h : vok ops pl = true) : VOk ops pl := by
  simp only [vok, Bool.and_eq_true] at h
  obtain ⟨⟨⟨h1, h2⟩, h3⟩, _⟩ := h
  refine ⟨fun i hi => ?_, fun p q i L he => ?_, fun i j oi oj d hne hoi hoj hd => ?_⟩
  · have := List.all_eq_true.1 h1 i (List.mem_range.2 hi)
    simpa using this
  · have := vchk_spec (fun k j => befs_spec) pl [] h2 p q i L he
    simpa using this
  · have hi := (Array.getElem?_eq_some_iff.1 hoi).1
    have hj := (Array.getElem?_eq_some_iff.1 hoj).1
    have h4 := List.all_eq_true.1 (List.all_eq_true.1 h3 i (List.mem_range.2 hi)) j (List.mem_range.2 hj)
    rw [hoi, hoj] at h4
    simp only [hd, Bool.or_eq_true, beq_iff_eq, hne, false_or, Bool.and_eq_true, bne_iff_ne, ne_eq, Bool.not_eq_true', List.contains_eq_mem, decide_eq_false_iff_not] at h4
    refine ⟨h4.1, fun hm => ?_⟩
    rcases h4.2 with (h5 | h5) | h5
    · exact absurd hm h5
    · exact .inl (befs_spec h5)
    · exact .inr (befs_spec h5)

/-! ### What has come up is closed under waiting -/

def Closed (ops : Array Oper) (X : Nat → Bool) : Prop := ∀ i o, ops[i]? = some o → X i = true → ∀ e ∈ o.after, Region.binds .any e = true → X e.on = true

theorem Closed.anc {ops : Array Oper} {X : Nat → Bool} (hc : Closed ops X) {j i : Nat} (h : Anc ops j i) (hi : X i = true) : X j = true := by
  induction h with
  | edge ho he hb => exact hc _ _ ho hi _ he hb
  | step ho he hb _ ih => exact ih (hc _ _ ho hi _ he hb)

theorem anc_ready {ops : Array Oper} {X : Nat → Bool} (hc : Closed ops X) {i : Nat} {o : Oper} (ho : ops[i]? = some o) (hr : ∀ e ∈ o.after, Region.binds .any e = true → X e.on = true) {j : Nat} (h : Anc ops j i) : X j = true := by
  cases h with
  | edge ho' he hb => rw [ho] at ho'; cases ho'; exact hr _ he hb
  | step ho' he hb h => rw [ho] at ho'; cases ho'; exact hc.anc h (hr _ he hb)

end Go.Proofs.YtcikcinkjbbnhaaDoor.M

/- The small machine, twelfth part: what an operation answers hangs on its operands alone. -/
set_option linter.unusedSimpArgs false
set_option linter.unusedVariables false
namespace Go.Proofs.YtcikcinkjbbnhaaDoor.M
open Go

theorem evs_congr {ρ ρ' : Env} {xs : Array Operand} (h : ∀ x ∈ xs, ev ρ x = ev ρ' x) : evs ρ xs = evs ρ' xs := by
  unfold evs
  exact List.map_congr_left fun x hx => h x (Array.mem_toList_iff.1 hx)

theorem parts_congr {ρ ρ' : Env} {ps : Array (Nat × Operand)} (h : ∀ x ∈ (ps.toList.map (·.2)).toArray, ev ρ x = ev ρ' x) :
    (ps.toList.map fun x => (x.1, ev ρ x.2)) = ps.toList.map fun x => (x.1, ev ρ' x.2) := by
  refine List.map_congr_left fun x hx => ?_
  rw [h x.2 (by simp only [List.mem_toArray, List.mem_map]; exact ⟨x, hx, rfl⟩)]

theorem opt_congr {ρ ρ' : Env} {l : Option Operand} (h : ∀ x ∈ l.toArray, ev ρ x = ev ρ' x) : l.map (ev ρ) = l.map (ev ρ') := by
  cases l with
  | none => rfl
  | some x => simp only [Option.map_some, Option.some.injEq]; exact h x (by simp)

theorem pureV_congr {P : Program} {op : Op} {ρ ρ' : Env} (h : ∀ x ∈ op.operands, ev ρ x = ev ρ' x) : pureV P op ρ = pureV P op ρ' := by
  unfold pureV
  split
  · rw [h _ (by simp [Op.operands])]
  · rw [h _ (by simp [Op.operands])]
  · rename_i c a b
    rw [h c (by simp [Op.operands]), h a (by simp [Op.operands]), h b (by simp [Op.operands])]
  · rename_i t ps
    rw [parts_congr (by simpa [Op.operands] using h)]
  · rw [h _ (by simp [Op.operands])]
  · rename_i o t x y u
    rw [h x (by simp [Op.operands]), h y (by simp [Op.operands])]
  · rw [h _ (by simp [Op.operands])]
  · rw [h _ (by simp [Op.operands])]
  · rw [h _ (by simp [Op.operands])]
  · rw [h _ (by simp [Op.operands])]
  · rw [h _ (by simp [Op.operands])]
  · rename_i t x i
    rw [h x (by simp [Op.operands]), h i (by simp [Op.operands])]
  · rename_i t x i
    rw [h x (by simp [Op.operands]), h i (by simp [Op.operands])]
  · rename_i t x l hi
    have h0 := h x (by simp [Op.operands])
    have h1 : l.map (ev ρ) = l.map (ev ρ') := opt_congr fun y hy => h y (by simp only [Op.operands, Array.mem_append]; simp_all)
    have h2 : hi.map (ev ρ) = hi.map (ev ρ') := opt_congr fun y hy => h y (by simp only [Op.operands, Array.mem_append]; simp_all)
    rw [h0, h1, h2]
  · rename_i t x l hi mx
    have h0 := h x (by simp [Op.operands])
    have h1 : l.map (ev ρ) = l.map (ev ρ') := opt_congr fun y hy => h y (by simp only [Op.operands, Array.mem_append]; simp_all)
    have h2 : hi.map (ev ρ) = hi.map (ev ρ') := opt_congr fun y hy => h y (by simp only [Op.operands, Array.mem_append]; simp_all)
    have h3 := h mx (by simp [Op.operands])
    rw [h0, h1, h2, h3]
  · rename_i f a b
    rw [evs_congr (xs := a) fun y hy => h y (by simp [Op.operands, hy]), evs_congr (xs := b) fun y hy => h y (by simp [Op.operands, hy])]
  · rename_i b args ats
    have he := evs_congr (xs := args) fun y hy => h y (by simpa [Op.operands, Call.operands] using hy)
    split
    · split
      · rename_i t x ht hx
        rw [h x (by simp only [Op.operands, Call.operands, Array.mem_append]; exact .inr (Array.mem_of_getElem? hx))]
      · rfl
    · rw [he]
    · rw [he]
    · rfl
  · rfl

theorem loadO_congr {P : Program} {op : Op} {ρ ρ' : Env} (h : ∀ x ∈ op.operands, ev ρ x = ev ρ' x) (H : MH) : loadO P op ρ H = loadO P op ρ' H := by
  unfold loadO
  split
  · rw [h _ (by simp [Op.operands])]
  · rfl

theorem allocV_congr {P : Program} {op : Op} {ρ ρ' : Env} (h : ∀ x ∈ op.operands, ev ρ x = ev ρ' x) : allocV P op ρ = allocV P op ρ' := by
  unfold allocV
  split
  · rfl
  · rw [h _ (by simp [Op.operands])]
  · rename_i t n ps
    rw [parts_congr (by simpa [Op.operands] using h)]
  · rename_i t l c
    rw [h l (by simp [Op.operands]), h c (by simp [Op.operands])]
  · rfl

theorem effM_congr {P : Program} {op : Op} {ρ ρ' : Env} (h : ∀ x ∈ op.operands, ev ρ x = ev ρ' x) {H : MH} {K : MV → MH → Prop} (hh : effM P op ρ H K) : effM P op ρ' H K := by
  unfold effM at *
  split at hh
  · rename_i t x y
    rw [← h x (by simp [Op.operands]), ← h y (by simp [Op.operands])]
    exact hh
  · rename_i f args ats
    have he := evs_congr (xs := args) fun y hy => h y (by simp [Op.operands, Call.operands, hy])
    rw [← h f (by simp [Op.operands, Call.operands]), ← he]
    exact hh
  · rename_i s x ats
    rw [← h s (by simp [Op.operands, Call.operands]), ← h x (by simp [Op.operands, Call.operands])]
    exact hh
  · rename_i s x ats
    rw [← h s (by simp [Op.operands, Call.operands]), ← h x (by simp [Op.operands, Call.operands])]
    exact hh
  · rename_i x ats
    rw [← h x (by simp [Op.operands, Call.operands])]
    exact hh
  · exact hh.elim

theorem effM_mono {P : Program} {op : Op} {ρ : Env} {H : MH} {K K' : MV → MH → Prop} (hk : ∀ v H', K v H' → K' v H') (hh : effM P op ρ H K) : effM P op ρ H K' := by
  unfold effM at *
  split at hh
  · split at hh
    · exact hk _ _ hh
    · exact hh.elim
  · split at hh
    · exact hh.mono hk
    · exact hh.elim
  · split at hh
    · exact hk _ _ hh
    · exact fun c hc => hk _ _ (hh c hc)
    · exact hh.elim
  · split at hh
    · exact hk _ _ hh
    · exact hh.elim
  · split at hh
    · exact hk _ _ hh
    · exact hh.elim
  · exact hh.elim

theorem loadO_grow {P : Program} {op : Op} {ρ : Env} {H : MH} {v : MV} (h : loadO P op ρ H = some v) (x : Option MO) : loadO P op ρ (H ++ [x]) = some v := by
  unfold loadO at h ⊢
  split at h
  · rename_i t y
    unfold loadV at h ⊢
    split at h
    · rename_i p o he
      have hg : ∀ ob, hget H p = some ob → hget (H ++ [x]) p = some ob := fun ob hob => by rw [hget_append (hget_lt hob)]; exact hob
      split at h
      · rename_i hk
        rw [if_pos hk]
        split at h
        · rename_i ha
          rw [if_pos ha]
          split at h
          · rename_i n hn
            simp only [Option.map_eq_some_iff] at h ⊢
            obtain ⟨cs, hcs, rfl⟩ := h
            refine ⟨cs, ?_, rfl⟩
            unfold cellsAt at hcs ⊢
            simp only [Option.bind_eq_some_iff] at hcs ⊢
            obtain ⟨ob, hob, hc⟩ := hcs
            exact ⟨ob, hg ob hob, hc⟩
          · cases h
        · rename_i ha
          rw [if_neg ha]
          simp only [Option.bind_eq_some_iff] at h ⊢
          obtain ⟨ob, hob, hc⟩ := h
          exact ⟨ob, hg ob hob, hc⟩
      · cases h
    · exact h
    · cases h
  · cases h

/-- The operands are among what an operation looks at. -/
theorem look_ops {ops : Array Oper} {o : Oper} {ρ ρ' : Env} (h : ∀ t ∈ o.looksAt ops, ρ t = ρ' t) : ∀ x ∈ o.op.operands, ev ρ x = ev ρ' x := by
  intro x hx
  cases x with
  | tmp t =>
    exact h t (List.mem_append_left _ (List.mem_filterMap.2 ⟨.tmp t, by simpa using hx, rfl⟩))
  | _ => rfl

theorem look_want {ops : Array Oper} {o : Oper} {ρ ρ' : Env} (h : ∀ t ∈ o.looksAt ops, ρ t = ρ' t) : wantedM ops.toList o ρ = wantedM ops.toList o ρ' := by
  unfold wantedM
  cases hg : o.guard with
  | none => rfl
  | some jw =>
    obtain ⟨j, want⟩ := jw
    have hj : ops.toList[j]? = ops[j]? := by simp
    simp only [hj]
    cases hd : (ops[j]?).bind (·.dst) with
    | none => rfl
    | some d =>
      simp only
      rw [h d (List.mem_append_right _ (by rw [hg]; simp [hd]))]

/-! ### The walk in the order told -/

def vM (P : Program) (ops : Array Oper) : List (Nat × List Nat) → List (Nat × (MH → Prop)) → Env → MH → (Env → MH → Prop) → Prop
  | [], F, ρ, H, K => K ρ H
  | (i, L) :: rest, F, ρ, H, K => match ops[i]? with
    | none => False
    | some o =>
      if wantedM ops.toList o ρ = true then
        match cls o.op with
        | .pure => ∃ v, pureV P o.op ρ = some v ∧ vM P ops rest F (put ρ o.dst v) H K
        | .load => ∃ v, loadO P o.op ρ H = some v ∧ vM P ops rest ((i, fun H' => loadO P o.op ρ H' = some v) :: F) (put ρ o.dst v) H K
        | .alloc => ∃ cs f, allocV P o.op ρ = some (cs, f) ∧ vM P ops rest ((i, fun H' => hget H' H.length = some ⟨cs, true⟩) :: F) (put ρ o.dst (f H.length)) (H ++ [some ⟨cs, true⟩]) K
        | .eff => effM P o.op ρ H fun v H' => (∀ x ∈ F, x.1 ∈ L → x.2 H') ∧ vM P ops rest F (put ρ o.dst v) H' K
      else vM P ops rest F (put ρ o.dst (.lit undef)) H K

def wr (ops : Array Oper) (t : Tmp) : Option Nat := (List.range ops.size).find? fun j => ((ops[j]?).bind (·.dst)) == some t

def ρof (ops : Array Oper) (V : Nat → MV) (X : Nat → Bool) (ρ0 : Env) : Env := fun t => match wr ops t with
  | some j => if X j = true then V j else ρ0 t
  | none => ρ0 t

theorem wr_some {ops : Array Oper} {t : Tmp} {j : Nat} (h : wr ops t = some j) : ∃ o, ops[j]? = some o ∧ o.dst = some t := by
  have := List.find?_some h
  simp only [beq_iff_eq, Option.bind_eq_some_iff] at this
  exact this

theorem wr_of {ops : Array Oper} {pl} (hv : VOk ops pl) {j : Nat} {o : Oper} {t : Tmp} (ho : ops[j]? = some o) (hd : o.dst = some t) : wr ops t = some j := by
  have hj := (Array.getElem?_eq_some_iff.1 ho).1
  cases hw : wr ops t with
  | none =>
    have := List.find?_eq_none.1 hw j (List.mem_range.2 hj)
    simp [ho, hd] at this
  | some k =>
    obtain ⟨ok, hok, hdk⟩ := wr_some hw
    by_cases hkj : k = j
    · rw [hkj]
    · have := (hv.ssa k j ok o t hkj hok ho hd).1
      exact absurd hdk this

theorem ρof_congr {ops : Array Oper} {V V' : Nat → MV} {X : Nat → Bool} {ρ0 : Env} (h : ∀ j, X j = true → V j = V' j) : ρof ops V X ρ0 = ρof ops V' X ρ0 := by
  funext t
  unfold ρof
  cases wr ops t with
  | none => rfl
  | some j =>
    simp only
    split
    · rename_i hx; exact h j hx
    · rfl

def upd (V : Nat → MV) (i : Nat) (v : MV) : Nat → MV := fun j => if j = i then v else V j
def add (X : Nat → Bool) (i : Nat) : Nat → Bool := fun j => X j || j == i

theorem ρof_add {ops : Array Oper} {pl} (hv : VOk ops pl) {V : Nat → MV} {X : Nat → Bool} {ρ0 : Env} {i : Nat} {o : Oper} (ho : ops[i]? = some o) (hi : X i = false) :
    ρof ops V (add X i) ρ0 = put (ρof ops V X ρ0) o.dst (V i) := by
  funext t
  cases hd : o.dst with
  | none =>
    simp only [put]
    unfold ρof
    cases hw : wr ops t with
    | none => rfl
    | some j =>
      simp only
      obtain ⟨oj, hoj, hdj⟩ := wr_some hw
      have : j ≠ i := by rintro rfl; rw [ho] at hoj; cases hoj; rw [hd] at hdj; cases hdj
      simp [add, this]
  | some d =>
    simp only [put]
    split
    · rename_i he
      subst he
      unfold ρof
      rw [wr_of hv ho hd]
      simp [add]
    · rename_i he
      unfold ρof
      cases hw : wr ops t with
      | none => rfl
      | some j =>
        simp only
        obtain ⟨oj, hoj, hdj⟩ := wr_some hw
        have : j ≠ i := by rintro rfl; rw [ho] at hoj; cases hoj; rw [hd] at hdj; exact he (Option.some.inj hdj).symm
        simp [add, this]

end Go.Proofs.YtcikcinkjbbnhaaDoor.M

/- The small machine, thirteenth part: a statement whose order of evaluation is drawn is met by the walk in the order told. -/
set_option linter.unusedSimpArgs false
set_option linter.unusedVariables false
namespace Go.Proofs.YtcikcinkjbbnhaaDoor.M
open Go

def mem (l : List (Nat × List Nat)) : Nat → Bool := fun i => (l.map (·.1)).contains i
theorem mem_iff {l : List (Nat × List Nat)} {i : Nat} : mem l i = true ↔ i ∈ l.map (·.1) := by simp [mem]
theorem mem_snoc {l : List (Nat × List Nat)} {i : Nat} {L : List Nat} : mem (l ++ [(i, L)]) = add (mem l) i := by
  funext j
  simp only [mem, add, List.map_append, List.map_cons, List.map_nil, List.contains_eq_mem, List.mem_append, List.mem_singleton]
  by_cases h : j = i <;> by_cases h2 : j ∈ l.map (·.1) <;> simp [h, h2]

def LateP (P : Program) (ops : Array Oper) (i : Nat) (o : Oper) (ρi : Env) (v : MV) (H : MH) (F : List (Nat × (MH → Prop))) (μ : Mu) (n0 : Nat) (pos : Nat → Nat) (Aw : Nat → Bool) : Prop :=
  (wantedM ops.toList o ρi = false ∧ v = .lit undef) ∨
  (wantedM ops.toList o ρi = true ∧ cls o.op = .pure ∧ pureV P o.op ρi = some v) ∨
  (wantedM ops.toList o ρi = true ∧ cls o.op = .load ∧ loadO P o.op ρi H = some v ∧ (i, fun H' => loadO P o.op ρi H' = some v) ∈ F) ∨
  (wantedM ops.toList o ρi = true ∧ cls o.op = .alloc ∧ ∃ cs f, allocV P o.op ρi = some (cs, f) ∧ v = f (pos i) ∧ hget H (pos i) = some ⟨cs, true⟩ ∧
    (i, fun H' => hget H' (pos i) = some ⟨cs, true⟩) ∈ F ∧ μ (pos i) = none ∧ n0 ≤ pos i ∧ Aw i = true)

section
variable (P : Program) (ops : Array Oper) (pl : List (Nat × List Nat)) (N : Nat) (ρ0 : Env) (μ0 : Mu) (H0 : MH) (w0 : World) (K : Env → MH → Prop)

structure Sim (X : Nat → Bool) (don rest : List (Nat × List Nat)) (F : List (Nat × (MH → Prop))) (V : Nat → MV) (pos : Nat → Nat) (Aw : Nat → Bool) (H : MH) (μ : Mu) (a : Act) (w : World) : Prop where
  eq : pl = don ++ rest
  vm : vM P ops rest F (ρof ops V (mem don) ρ0) H K
  sub : ∀ i, X i = true → i ∈ don.map (·.1)
  eff : ∀ i ∈ don.map (·.1), ∀ o, ops[i]? = some o → cls o.op = .eff → X i = true
  tm : Tm μ (ρof ops V X ρ0) a
  sz : a.tmps.size = N
  df : a.defers = []
  rel : Rel μ H w
  ext : Ext μ0 H0 w0 μ H w
  late : ∀ p i L q o, don = p ++ (i, L) :: q → ops[i]? = some o → X i = false → LateP P ops i o (ρof ops V (mem p) ρ0) (V i) H F μ H0.length pos Aw
  inj : ∀ i j, i ∈ don.map (·.1) → j ∈ don.map (·.1) → i ≠ j → Aw i = true → Aw j = true → pos i ≠ pos j
  bnd : ∀ i, i ∈ don.map (·.1) → Aw i = true → pos i < H.length
end

section
variable {P : Program} {ops : Array Oper} {pl : List (Nat × List Nat)} {N : Nat} {ρ0 : Env} {μ0 : Mu} {H0 : MH} {w0 : World} {K : Env → MH → Prop}

def updN {α : Type} (V : Nat → α) (i : Nat) (v : α) : Nat → α := fun j => if j = i then v else V j

theorem snoc_split {don p q : List (Nat × List Nat)} {x y : Nat × List Nat} (h : don ++ [x] = p ++ y :: q) : (q = [] ∧ p = don ∧ y = x) ∨ ∃ q', q = q' ++ [x] ∧ don = p ++ y :: q' := by
  rcases List.eq_nil_or_concat q with rfl | ⟨q', z, rfl⟩
  · left
    have h' : don ++ [x] = p ++ [y] := h
    have := List.append_inj' h' rfl
    exact ⟨rfl, this.1.symm, by have := this.2; simp at this; exact this.symm⟩
  · right
    have h' : don ++ [x] = (p ++ y :: q') ++ [z] := by rw [h]; simp
    have := List.append_inj' h' rfl
    have hz : x = z := by have := this.2; simpa using this
    exact ⟨q', by rw [hz]; simp, this.1⟩

theorem LateP.step {i : Nat} {o : Oper} {ρi ρi' : Env} {v : MV} {H H' : MH} {F F' : List (Nat × (MH → Prop))} {μ : Mu} {n0 : Nat} {pos pos' : Nat → Nat} {Aw Aw' : Nat → Bool}
    (h : LateP P ops i o ρi v H F μ n0 pos Aw) (hρ : ρi' = ρi) (hF : ∀ x ∈ F, x ∈ F') (hpos : pos' i = pos i) (hAw : Aw' i = Aw i) (hH : H' = H ∨ ∃ x, H' = H ++ [x]) :
    LateP P ops i o ρi' v H' F' μ n0 pos' Aw' := by
  subst hρ
  rcases h with h | h | ⟨h1, h2, h3, h4⟩ | ⟨h1, h2, cs, f, h3, h4, h5, h6, h7, h8, h9⟩
  · exact .inl h
  · exact .inr (.inl h)
  · refine .inr (.inr (.inl ⟨h1, h2, ?_, hF _ h4⟩))
    rcases hH with rfl | ⟨x, rfl⟩
    · exact h3
    · exact loadO_grow h3 x
  · refine .inr (.inr (.inr ⟨h1, h2, cs, f, h3, by rw [hpos]; exact h4, ?_, by rw [hpos]; exact hF _ h6, by rw [hpos]; exact h7, by rw [hpos]; exact h8, by rw [hAw]; exact h9⟩))
    rw [hpos]
    rcases hH with rfl | ⟨x, rfl⟩
    · exact h5
    · rw [hget_append (hget_lt h5)]; exact h5

/-- The told walk goes on by itself to the next operation that writes or calls. -/
theorem Sim.advance (hv : VOk ops pl) {X : Nat → Bool} {a : Act} {w : World} {μ : Mu} : ∀ (rest don : List (Nat × List Nat)) (F : List (Nat × (MH → Prop))) (V : Nat → MV) (pos : Nat → Nat) (Aw : Nat → Bool) (H : MH),
    Sim P ops pl N ρ0 μ0 H0 w0 K X don rest F V pos Aw H μ a w →
    ∃ don' rest' F' V' pos' Aw' H', Sim P ops pl N ρ0 μ0 H0 w0 K X don' rest' F' V' pos' Aw' H' μ a w ∧ (rest' = [] ∨ ∃ e L r o, rest' = (e, L) :: r ∧ ops[e]? = some o ∧ cls o.op = .eff)
  | [], don, F, V, pos, Aw, H, s => ⟨don, [], F, V, pos, Aw, H, s, .inl rfl⟩
  | (i, L) :: rest, don, F, V, pos, Aw, H, s => by
    obtain ⟨o, ho, hni, hedge, hj⟩ := hv.top don rest i L s.eq
    by_cases he : cls o.op = .eff
    · exact ⟨don, (i, L) :: rest, F, V, pos, Aw, H, s, .inr ⟨i, L, rest, o, rfl, ho, he⟩⟩
    have hXi : X i = false := by
      cases hx : X i with
      | false => rfl
      | true => exact absurd (s.sub i hx) hni
    have hmi : mem don i = false := by
      cases hx : mem don i with
      | false => rfl
      | true => exact absurd (mem_iff.1 hx) hni
    have key : ∀ (v : MV) (F' : List (Nat × (MH → Prop))) (pos' : Nat → Nat) (Aw' : Nat → Bool) (H' : MH), (∀ x ∈ F, x ∈ F') → (∀ j, j ≠ i → pos' j = pos j ∧ Aw' j = Aw j) → (H' = H ∨ ∃ x, H' = H ++ [x]) →
        (Aw' i = true → pos' i = H.length ∧ ∃ x, H' = H ++ [x]) →
        vM P ops rest F' (put (ρof ops V (mem don) ρ0) o.dst v) H' K → LateP P ops i o (ρof ops V (mem don) ρ0) v H' F' μ H0.length pos' Aw' →
        Sim P ops pl N ρ0 μ0 H0 w0 K X (don ++ [(i, L)]) rest F' (upd V i v) pos' Aw' H' μ a w := by
      intro v F' pos' Aw' H' hF hpos hH hAi hvm hlate
      have hcong : ∀ Y : Nat → Bool, Y i = false → ρof ops (upd V i v) Y ρ0 = ρof ops V Y ρ0 := fun Y hY => ρof_congr fun j hj2 => by
        unfold upd
        rw [if_neg]
        rintro rfl
        rw [hY] at hj2; cases hj2
      have hHlen : H.length ≤ H'.length := by rcases hH with rfl | ⟨x, rfl⟩ <;> simp
      refine ⟨by rw [s.eq]; simp, ?_, fun j hj => by simp [s.sub j hj], fun j hjm oj hoj hc => ?_, ?_, s.sz, s.df, ?_, ?_, fun p j L' q oj hsp hoj hXj => ?_, fun j k hjm hkm hne h1 h2 => ?_, fun j hjm h1 => ?_⟩
      · rw [mem_snoc, ρof_add hv ho hmi, hcong _ hmi]
        simpa [upd] using hvm
      · simp only [List.map_append, List.map_cons, List.map_nil, List.mem_append, List.mem_singleton] at hjm
        rcases hjm with h1 | rfl
        · exact s.eff j h1 oj hoj hc
        · rw [ho] at hoj; cases hoj; exact absurd hc he
      · rw [hcong X hXi]; exact s.tm
      · rcases hH with rfl | ⟨x, rfl⟩
        · exact s.rel
        · exact s.rel.grow x
      · rcases hH with rfl | ⟨x, rfl⟩
        · exact s.ext
        · exact s.ext.grow s.rel x
      · rcases snoc_split hsp with ⟨rfl, rfl, hy⟩ | ⟨q', rfl, hd⟩
        · cases hy
          rw [ho] at hoj; cases hoj
          rw [hcong _ hmi]
          simpa [upd] using hlate
        · have hjd : j ∈ don.map (·.1) := by rw [hd]; simp
          have hji : j ≠ i := by rintro rfl; exact hni hjd
          have hmp : mem p i = false := by
            cases hx : mem p i with
            | false => rfl
            | true => exact absurd (by rw [hd]; simp only [List.map_append, List.mem_append]; exact .inl (mem_iff.1 hx)) hni
          have := s.late p j L' q' oj hd hoj hXj
          have hvj : upd V i v j = V j := by simp [upd, hji]
          rw [hvj]
          exact this.step (hcong _ hmp) hF (hpos j hji).1 (hpos j hji).2 hH
      · simp only [List.map_append, List.map_cons, List.map_nil, List.mem_append, List.mem_singleton] at hjm hkm
        rcases hjm with hjm | rfl
        · have hji : j ≠ i := by rintro rfl; exact hni hjm
          rw [(hpos j hji).2] at h1
          rw [(hpos j hji).1]
          rcases hkm with hkm | rfl
          · have hki : k ≠ i := by rintro rfl; exact hni hkm
            rw [(hpos k hki).2] at h2
            rw [(hpos k hki).1]
            exact s.inj j k hjm hkm hne h1 h2
          · rw [(hAi h2).1]
            have := s.bnd j hjm h1
            omega
        · rcases hkm with hkm | rfl
          · have hki : k ≠ j := by rintro rfl; exact hni hkm
            rw [(hpos k hki).2] at h2
            rw [(hpos k hki).1, (hAi h1).1]
            have := s.bnd k hkm h2
            omega
          · exact absurd rfl hne
      · simp only [List.map_append, List.map_cons, List.map_nil, List.mem_append, List.mem_singleton] at hjm
        rcases hjm with hjm | rfl
        · have hji : j ≠ i := by rintro rfl; exact hni hjm
          rw [(hpos j hji).2] at h1
          rw [(hpos j hji).1]
          have := s.bnd j hjm h1
          omega
        · obtain ⟨h2, x, rfl⟩ := hAi h1
          rw [h2]; simp
    have hvm := s.vm
    simp only [vM, ho] at hvm
    by_cases hw : wantedM ops.toList o (ρof ops V (mem don) ρ0) = true
    · rw [if_pos hw] at hvm
      cases hc : cls o.op with
      | pure =>
        rw [hc] at hvm
        obtain ⟨v, hv1, hv2⟩ := hvm
        exact Sim.advance hv rest _ _ _ _ _ _ (key v F pos (updN Aw i false) H (fun x hx => hx) (fun j hj => ⟨rfl, by simp [updN, hj]⟩) (.inl rfl) (by simp [updN]) hv2 (.inr (.inl ⟨hw, hc, hv1⟩)))
      | load =>
        rw [hc] at hvm
        obtain ⟨v, hv1, hv2⟩ := hvm
        exact Sim.advance hv rest _ _ _ _ _ _ (key v _ pos (updN Aw i false) H (fun x hx => List.mem_cons_of_mem _ hx) (fun j hj => ⟨rfl, by simp [updN, hj]⟩) (.inl rfl) (by simp [updN]) hv2
          (.inr (.inr (.inl ⟨hw, hc, hv1, List.mem_cons_self ..⟩))))
      | alloc =>
        rw [hc] at hvm
        obtain ⟨cs, f, hv1, hv2⟩ := hvm
        have hpi : updN pos i H.length i = H.length := by simp [updN]
        refine Sim.advance hv rest _ _ _ _ _ _ (key (f H.length) _ (updN pos i H.length) (updN Aw i true) (H ++ [some ⟨cs, true⟩]) (fun x hx => List.mem_cons_of_mem _ hx) (fun j hj => ⟨by simp [updN, hj], by simp [updN, hj]⟩)
          (.inr ⟨_, rfl⟩) (fun _ => ⟨by simp [updN], _, rfl⟩) hv2 (.inr (.inr (.inr ⟨hw, hc, cs, f, hv1, by rw [hpi], by rw [hpi]; exact hget_append_new, ?_, by rw [hpi]; exact s.rel.unbound (Nat.le_refl _), by rw [hpi]; exact s.ext.hlen, by simp [updN]⟩))))
        rw [hpi]
        exact List.mem_cons_self ..
      | eff => exact absurd hc he
    · rw [if_neg hw] at hvm
      exact Sim.advance hv rest _ _ _ _ _ _ (key (.lit undef) F pos (updN Aw i false) H (fun x hx => hx) (fun j hj => ⟨rfl, by simp [updN, hj]⟩) (.inl rfl) (by simp [updN]) hvm (.inl ⟨by simpa using hw, rfl⟩))

end
end Go.Proofs.YtcikcinkjbbnhaaDoor.M

/- The small machine, fourteenth part: a statement whose order is drawn, whole. -/
set_option linter.unusedSimpArgs false
set_option linter.unusedVariables false
namespace Go.Proofs.YtcikcinkjbbnhaaDoor.M
open Go

section
variable {P : Program} {ops : Array Oper} {pl : List (Nat × List Nat)} {N : Nat} {ρ0 : Env} {μ0 : Mu} {H0 : MH} {w0 : World} {K : Env → MH → Prop}

/-- What an operation looks at is the same in the told walk and in the real one. -/
theorem look_same (hv : VOk ops pl) {X : Nat → Bool} (hcl : Closed ops X) {i : Nat} {o : Oper} (ho : ops[i]? = some o) (hXi : X i = false)
    (hr : ∀ e ∈ o.after, Region.binds .any e = true → X e.on = true) {p q : List (Nat × List Nat)} {L : List Nat} (hpl : pl = p ++ (i, L) :: q) {V : Nat → MV} :
    ∀ t ∈ o.looksAt ops, ρof ops V (mem p) ρ0 t = ρof ops V X ρ0 t := by
  intro t ht
  unfold ρof
  cases hw : wr ops t with
  | none => rfl
  | some j =>
    simp only
    obtain ⟨oj, hoj, hdj⟩ := wr_some hw
    obtain ⟨o', ho', hni, hedge, _⟩ := hv.top p q i L hpl
    rw [ho] at ho'; cases ho'
    have hj : mem p j = X j := by
      by_cases hji : j = i
      · subst hji
        rw [hXi]
        cases hx : mem p j with
        | false => rfl
        | true => exact absurd (mem_iff.1 hx) hni
      · rcases (hv.ssa i j o oj t (Ne.symm hji) ho hoj hdj).2 ht with h | h
        · -- j stands ahead of i
          have hx := anc_ready hcl ho hr h
          have hpcl : Closed ops (mem p) := by
            intro k ok hok hk e he hb
            have hkm := mem_iff.1 hk
            obtain ⟨⟨k', L'⟩, hkm', rfl⟩ := List.mem_map.1 hkm
            obtain ⟨p1, p2, rfl⟩ := List.append_of_mem hkm'
            obtain ⟨o2, ho2, _, hed, _⟩ := hv.top p1 (p2 ++ (i, L) :: q) k' L' (by rw [hpl]; simp)
            simp only at hok
            rw [hok] at ho2; cases ho2
            have := hed e he hb
            rw [mem_iff]
            simp only [List.map_append, List.mem_append]
            exact .inl this
          have hm := anc_ready hpcl ho (fun e he hb => mem_iff.2 (hedge e he hb)) h
          rw [hx, hm]
        · -- i stands ahead of j
          have hxj : X j = false := by
            cases hx : X j with
            | false => rfl
            | true => have := hcl.anc h hx; rw [hXi] at this; cases this
          have hmj : mem p j = false := by
            cases hx : mem p j with
            | false => rfl
            | true =>
              exfalso
              obtain ⟨⟨j', L'⟩, hjm', hje⟩ := List.mem_map.1 (mem_iff.1 hx)
              simp only at hje
              subst hje
              obtain ⟨p1, p2, rfl⟩ := List.append_of_mem hjm'
              have hp1cl : Closed ops (mem p1) := by
                intro k ok hok hk e he hb
                have hkm := mem_iff.1 hk
                obtain ⟨⟨k', L2⟩, hkm', rfl⟩ := List.mem_map.1 hkm
                obtain ⟨p3, p4, rfl⟩ := List.append_of_mem hkm'
                obtain ⟨o2, ho2, _, hed, _⟩ := hv.top p3 (p4 ++ (j', L') :: (p2 ++ (i, L) :: q)) k' L2 (by rw [hpl]; simp)
                simp only at hok
                rw [hok] at ho2; cases ho2
                have := hed e he hb
                rw [mem_iff]
                simp only [List.map_append, List.mem_append]
                exact .inl this
              obtain ⟨o2, ho2, _, hed, _⟩ := hv.top p1 (p2 ++ (i, L) :: q) j' L' (by rw [hpl]; simp)
              have := anc_ready hp1cl ho2 (fun e he hb => mem_iff.2 (hed e he hb)) h
              refine hni ?_
              simp only [List.map_append, List.mem_append]
              exact .inl (mem_iff.1 this)
          rw [hxj, hmj]
    rw [hj]

theorem mem_split {l : List (Nat × List Nat)} {i : Nat} (h : i ∈ l.map (·.1)) : ∃ p L q, l = p ++ (i, L) :: q := by
  obtain ⟨⟨i', L⟩, hm, he⟩ := List.mem_map.1 h
  simp only at he
  subst he
  obtain ⟨p, q, rfl⟩ := List.append_of_mem hm
  exact ⟨p, L, q, rfl⟩

/-- The real walk comes to an operation that the told one has left behind. -/
theorem Sim.list (hb0 : TabIn μ0 H0 w0) (hv : VOk ops pl) (hok : opsOk N ops.toList = true) {X : Nat → Bool} (hcl : Closed ops X) {don rest F V pos Aw H μ a w} (s : Sim P ops pl N ρ0 μ0 H0 w0 K X don rest F V pos Aw H μ a w)
    {i : Nat} {o : Oper} (ho : ops[i]? = some o) (hXi : X i = false) (hr : ∀ e ∈ o.after, Region.binds .any e = true → X e.on = true) (hi : i ∈ don.map (·.1)) {Q : Exit → Act → World → Prop} {next : Act → World → Prop}
    (hn : ∀ μ' a' w', Sim P ops pl N ρ0 μ0 H0 w0 K (add X i) don rest F V pos Aw H μ' a' w' → next a' w') : wpOp P ops Q i next a w := by
  obtain ⟨p, L, q, hd⟩ := mem_split hi
  have hlook := look_same (V := V) (ρ0 := ρ0) hv hcl ho hXi hr (p := p) (q := q ++ rest) (L := L) (by rw [s.eq, hd]; simp)
  have hL := s.late p i L q o hd ho hXi
  have hops := look_ops hlook
  have hwant := look_want hlook
  have hdst : ∀ t, o.dst = some t → t < a.tmps.size := by
    intro t ht
    have h1 := List.all_eq_true.1 hok o (Array.mem_toList_iff.2 (Array.mem_of_getElem? ho))
    rw [ht] at h1
    rw [s.sz]; simpa using h1
  have hadd : ∀ j, j ≠ i → add X i j = X j := fun j hj => by simp [add, hj]
  have fin : ∀ (μ' : Mu) (w' : World), Mle μ μ' → Ok μ' (V i) → Rel μ' H w' → Ext μ0 H0 w0 μ' H w' → (∀ j, j ≠ i → Aw j = true → j ∈ don.map (·.1) → μ (pos j) = none → μ' (pos j) = none) →
      Sim P ops pl N ρ0 μ0 H0 w0 K (add X i) don rest F V pos Aw H μ' (a.put o.dst (conc μ' (V i))) w' := by
    intro μ' w' hm hokv hrel hext hun
    refine ⟨s.eq, s.vm, fun j hj => ?_, fun j hjm oj hoj hc => ?_, ?_, by rw [put_size]; exact s.sz, by rw [put_defers]; exact s.df, hrel, hext, fun p' j L' q' oj hsp hoj hXj => ?_, s.inj, s.bnd⟩
    · by_cases hji : j = i
      · rw [hji]; exact hi
      · rw [hadd j hji] at hj; exact s.sub j hj
    · by_cases hji : j = i
      · simp [add, hji]
      · rw [hadd j hji]; exact s.eff j hjm oj hoj hc
    · rw [ρof_add hv ho hXi]
      exact (s.tm.mono hm).put _ hdst hokv
    · have hji : j ≠ i := by rintro rfl; simp [add] at hXj
      rw [hadd j hji] at hXj
      rcases s.late p' j L' q' oj hsp hoj hXj with h | h | h | ⟨h1, h2, cs, f, h3, h4, h5, h6, h7, h8, h9⟩
      · exact .inl h
      · exact .inr (.inl h)
      · exact .inr (.inr (.inl h))
      · exact .inr (.inr (.inr ⟨h1, h2, cs, f, h3, h4, h5, h6, hun j hji h9 (by rw [hsp]; simp) h7, h8, h9⟩))
  unfold wpOp
  rw [ho]
  simp only
  rw [wanted_sound s.tm, ← hwant]
  rcases hL with ⟨h1, h2⟩ | ⟨h1, h2, h3⟩ | ⟨h1, h2, h3, h4⟩ | ⟨h1, h2, cs, f, h3, h4, h5, h6, h7, h8, h9⟩
  · rw [h1]
    simp only [Bool.false_eq_true, if_false]
    have := fin μ w (Mle.refl μ) (by rw [h2]; simp [Ok]) s.rel s.ext (fun _ _ _ _ h => h)
    rw [h2, conc] at this
    exact hn _ _ _ this
  · rw [h1]
    simp only [if_true]
    rw [pureV_congr hops] at h3
    have := pure_sound h3 s.tm
    refine .inl ?_
    unfold Oper.wp
    rw [this.1 w, Oper.upon_value]
    exact hn _ _ _ (fin μ w (Mle.refl μ) this.2 s.rel s.ext (fun _ _ _ _ h => h))
  · rw [h1]
    simp only [if_true]
    rw [loadO_congr hops] at h3
    refine .inl ?_
    unfold loadO at h3
    split at h3
    · rename_i t x he
      have := load_sound h3 s.tm s.rel (hb0.ext s.ext) o he
      unfold Oper.wp
      rw [this.1, Oper.upon_value]
      exact hn _ _ _ (fin μ w (Mle.refl μ) this.2 s.rel s.ext (fun _ _ _ _ h => h))
    · cases h3
  · rw [h1]
    simp only [if_true]
    rw [allocV_congr hops] at h3
    refine .inl ?_
    obtain ⟨hokc, v, t, hrun, hval⟩ := alloc_sound h3 s.tm w
    unfold Oper.wp
    rw [hrun, Oper.upon_value]
    have hb := s.rel.bind h7 h5 (cs := (concs μ cs).toArray) (t := t) rfl hokc (w' := { w with heap := w.heap.push (.cells (concs μ cs).toArray t) }) rfl
    have he := s.ext.bind h7 h8 (l := ⟨w.heap.size, 0, cs.length⟩) (x := .cells (concs μ cs).toArray t) rfl (w' := { w with heap := w.heap.push (.cells (concs μ cs).toArray t) }) rfl
    obtain ⟨hc1, hc2⟩ := hval _ (pos i) (show bind1 μ (pos i) ⟨w.heap.size, 0, cs.length⟩ (pos i) = _ by simp [bind1])
    rw [← hc1, ← h4]
    refine hn _ _ _ (fin _ _ (bind1_le h7) (by rw [h4]; exact hc2) hb he fun j hji hAj hjm hun => ?_)
    have := s.inj j i hjm hi hji hAj h9
    simp [bind1, this, hun]

/-- The real walk comes to the next operation that writes or calls. -/
theorem Sim.effect (hb0 : TabIn μ0 H0 w0) (hv : VOk ops pl) (hok : opsOk N ops.toList = true) {X : Nat → Bool} (hcl : Closed ops X) {don rest F V pos Aw H μ a w} {e : Nat} {L : List Nat}
    (s : Sim P ops pl N ρ0 μ0 H0 w0 K X don ((e, L) :: rest) F V pos Aw H μ a w)
    {o : Oper} (ho : ops[e]? = some o) (hXe : X e = false) (hr : ∀ d ∈ o.after, Region.binds .any d = true → X d.on = true) (hce : cls o.op = .eff) {Q : Exit → Act → World → Prop} {next : Act → World → Prop}
    (hn : ∀ don' rest' F' V' pos' Aw' H' μ' a' w', Sim P ops pl N ρ0 μ0 H0 w0 K (add X e) don' rest' F' V' pos' Aw' H' μ' a' w' → next a' w') : wpOp P ops Q e next a w := by
  have hpl : pl = don ++ (e, L) :: rest := s.eq
  have hlook := look_same (V := V) (ρ0 := ρ0) hv hcl ho hXe hr hpl
  have hops := look_ops hlook
  have hwant := look_want hlook
  obtain ⟨o', ho', hni, hedge, hj⟩ := hv.top don rest e L hpl
  rw [ho] at ho'; cases ho'
  have hme : mem don e = false := by
    cases hx : mem don e with
    | false => rfl
    | true => exact absurd (mem_iff.1 hx) hni
  have hdst : ∀ t, o.dst = some t → t < a.tmps.size := by
    intro t ht
    have h1 := List.all_eq_true.1 hok o (Array.mem_toList_iff.2 (Array.mem_of_getElem? ho))
    rw [ht] at h1
    rw [s.sz]; simpa using h1
  have hadd : ∀ j, j ≠ e → add X e j = X j := fun j hj => by simp [add, hj]
  have hcong : ∀ (v : MV) (Y : Nat → Bool), Y e = false → ρof ops (upd V e v) Y ρ0 = ρof ops V Y ρ0 := fun v Y hY => ρof_congr fun j hj2 => by
    unfold upd
    rw [if_neg]
    rintro rfl
    rw [hY] at hj2; cases hj2
  have fin : ∀ (v : MV) (H' : MH) (μ' : Mu) (w' : World), Ok μ' v → Rel μ' H' w' → Ext μ H w μ' H' w' → (H' = H ∨ ∀ x ∈ F, x.1 ∈ L → x.2 H') →
      vM P ops rest F (put (ρof ops V (mem don) ρ0) o.dst v) H' K →
      Sim P ops pl N ρ0 μ0 H0 w0 K (add X e) (don ++ [(e, L)]) rest F (upd V e v) pos (updN Aw e false) H' μ' (a.put o.dst (conc μ' v)) w' := by
    intro v H' μ' w' hokv hrel hext hF hvm
    refine ⟨by rw [hpl]; simp, ?_, fun j hjx => ?_, fun j hjm oj hoj hc => ?_, ?_, by rw [put_size]; exact s.sz, by rw [put_defers]; exact s.df, hrel, s.ext.trans hext, fun p j L' q oj hsp hoj hXj => ?_, fun j k hjm hkm hne h1 h2 => ?_, fun j hjm h1 => ?_⟩
    · rw [mem_snoc, ρof_add hv ho hme, hcong v _ hme]
      simpa [upd] using hvm
    · by_cases hje : j = e
      · rw [hje]; simp
      · rw [hadd j hje] at hjx
        simp only [List.map_append, List.mem_append]
        exact .inl (s.sub j hjx)
    · by_cases hje : j = e
      · simp [add, hje]
      · rw [hadd j hje]
        simp only [List.map_append, List.map_cons, List.map_nil, List.mem_append, List.mem_singleton] at hjm
        exact s.eff j (hjm.resolve_right hje) oj hoj hc
    · rw [ρof_add hv ho hXe, hcong v _ hXe]
      have := (s.tm.mono hext.mono).put o.dst hdst hokv
      simpa [upd] using this
    · have hje : j ≠ e := by rintro rfl; simp [add] at hXj
      rw [hadd j hje] at hXj
      rcases snoc_split hsp with ⟨rfl, rfl, hy⟩ | ⟨q', rfl, hd⟩
      · cases hy; exact absurd rfl hje
      · have hjd : j ∈ don.map (·.1) := by rw [hd]; simp
        have hmp : mem p e = false := by
          cases hx : mem p e with
          | false => rfl
          | true => exact absurd (by rw [hd]; simp only [List.map_append, List.mem_append]; exact .inl (mem_iff.1 hx)) hni
        have hvj : upd V e v j = V j := by simp [upd, hje]
        rw [hvj, hcong v _ hmp]
        have hnotanc : ¬ Anc ops j e := fun h => by have := anc_ready hcl ho hr h; rw [hXj] at this; cases this
        have hA : updN Aw e false j = Aw j := by simp [updN, hje]
        rcases s.late p j L' q' oj hd hoj hXj with h | h | ⟨h1, h2, h3, h4⟩ | ⟨h1, h2, cs, f, h3, h4, h5, h6, h7, h8, h9⟩
        · exact .inl h
        · exact .inr (.inl h)
        · have hl : j ∈ L := ((hj j hjd oj hoj).2 hce (.inl h2)).resolve_left hnotanc
          exact .inr (.inr (.inl ⟨h1, h2, hF.elim (fun he => by rw [he]; exact h3) (fun hF => hF _ h4 hl), h4⟩))
        · have hl : j ∈ L := ((hj j hjd oj hoj).2 hce (.inr h2)).resolve_left hnotanc
          refine .inr (.inr (.inr ⟨h1, h2, cs, f, h3, h4, hF.elim (fun he => by rw [he]; exact h5) (fun hF => hF _ h6 hl), h6, ?_, h8, by rw [hA]; exact h9⟩))
          cases hx : μ' (pos j) with
          | none => rfl
          | some l =>
            rcases hext.new _ _ hx with h | h
            · rw [h7] at h; cases h
            · have := hget_lt h5; omega
    · have hne' : ∀ j, updN Aw e false j = true → j ≠ e := fun j h => by rintro rfl; simp [updN] at h
      have hje := hne' j h1
      have hke := hne' k h2
      simp only [List.map_append, List.map_cons, List.map_nil, List.mem_append, List.mem_singleton] at hjm hkm
      exact s.inj j k (hjm.resolve_right hje) (hkm.resolve_right hke) hne (by simpa [updN, hje] using h1) (by simpa [updN, hke] using h2)
    · have hje : j ≠ e := by rintro rfl; simp [updN] at h1
      simp only [List.map_append, List.map_cons, List.map_nil, List.mem_append, List.mem_singleton] at hjm
      have := s.bnd j (hjm.resolve_right hje) (by simpa [updN, hje] using h1)
      have := hext.hlen
      omega
  have hvm := s.vm
  simp only [vM, ho] at hvm
  unfold wpOp
  rw [ho]
  simp only
  rw [wanted_sound s.tm, ← hwant]
  by_cases hw : wantedM ops.toList o (ρof ops V (mem don) ρ0) = true
  · rw [if_pos hw] at hvm
    rw [if_pos hw]
    rw [hce] at hvm
    have hvm' := effM_congr hops hvm
    refine .inl (eff_sound hvm' s.tm s.rel (hb0.ext s.ext) fun v H' μ' w' hk hokv hrel hext => ?_)
    exact hn _ _ _ _ _ _ _ _ _ _ (fin v H' μ' w' hokv hrel hext (.inr hk.1) hk.2)
  · rw [if_neg hw] at hvm
    rw [if_neg hw]
    have := fin (.lit undef) H μ w (by simp [Ok]) s.rel (Ext.refl _ _ _) (.inl rfl) hvm
    rw [conc] at this
    exact hn _ _ _ _ _ _ _ _ _ _ this


theorem count_set {n : Nat} {X Y : Nat → Bool} {i : Nat} (hi : i < n) (hX : X i = false) (hY : ∀ j, Y j = add X i j) : ((List.range n).countP fun j => !Y j) + 1 ≤ (List.range n).countP fun j => !X j := by
  induction n with
  | zero => omega
  | succ n ih =>
    rw [List.range_succ, List.countP_append, List.countP_append, List.countP_singleton, List.countP_singleton]
    by_cases hin : i = n
    · subst hin
      have h1 : (List.range i).countP (fun j => !Y j) = (List.range i).countP (fun j => !X j) := by
        refine List.countP_congr fun j hj => ?_
        have : j ≠ i := Nat.ne_of_lt (List.mem_range.1 hj)
        simp [hY, add, this]
      rw [h1]
      simp [hY, add, hX]
    · have := ih (by omega)
      have h2 : (!Y n) = (!X n) := by
        have : n ≠ i := fun h => hin h.symm
        simp [hY, add, this]
      rw [h2]
      omega

/-- Whatever order is drawn. -/
theorem sim_any (hb0 : TabIn μ0 H0 w0) (hv : VOk ops pl) (hok : opsOk N ops.toList = true) {Q : Exit → Act → World → Prop} (hQ : ∀ ρ H μ a w, K ρ H → St N μ0 H0 w0 ρ H μ a w → Q .normal a w) :
    ∀ (fuel : Nat) (listed : Array Bool) (a : Act) (w : World), listed.size = ops.size → Closed ops (fun i => listed.getD i false) → ((List.range ops.size).countP fun j => !listed.getD j false) ≤ fuel →
      (∃ don rest F V pos Aw H μ, Sim P ops pl N ρ0 μ0 H0 w0 K (fun i => listed.getD i false) don rest F V pos Aw H μ a w) → wpAny P .any ops Q fuel listed a w := by
  have hnil : ∀ (listed : Array Bool) (a : Act) (w : World), listed.size = ops.size → Closed ops (fun i => listed.getD i false) → Region.ready .any ops listed = [] →
      (∃ don rest F V pos Aw H μ, Sim P ops pl N ρ0 μ0 H0 w0 K (fun i => listed.getD i false) don rest F V pos Aw H μ a w) → Q .normal a w := by
    intro listed a w hsz hcl hre ⟨don, rest, F, V, pos, Aw, H, μ, s⟩
    have hall : ∀ (n : Nat) (p q : List (Nat × List Nat)) (i : Nat) (L : List Nat), p.length ≤ n → pl = p ++ (i, L) :: q → listed.getD i false = true := by
      intro n
      induction n with
      | zero =>
        intro p q i L hp hpl
        have : p = [] := List.length_eq_zero_iff.1 (by omega)
        subst this
        obtain ⟨o, ho, _, hed, _⟩ := hv.top [] q i L hpl
        cases hx : listed.getD i false with
        | true => rfl
        | false =>
          have hlt := (Array.getElem?_eq_some_iff.1 ho).1
          have : i ∈ Region.ready .any ops listed := mem_ready.2 ⟨by simpa [Array.getD_eq_getD_getElem?, hsz, hlt] using hx, o, ho, fun e he hb => by have := hed e he hb; simp at this⟩
          rw [hre] at this; cases this
      | succ n ih =>
        intro p q i L hp hpl
        obtain ⟨o, ho, _, hed, _⟩ := hv.top p q i L hpl
        cases hx : listed.getD i false with
        | true => rfl
        | false =>
          have hlt := (Array.getElem?_eq_some_iff.1 ho).1
          have : i ∈ Region.ready .any ops listed := mem_ready.2 ⟨by simpa [Array.getD_eq_getD_getElem?, hsz, hlt] using hx, o, ho, fun e he hb => by
            obtain ⟨p1, L1, p2, rfl⟩ := mem_split (hed e he hb)
            refine ih p1 (p2 ++ (i, L) :: q) e.on L1 ?_ (by rw [hpl]; simp)
            simp at hp
            omega⟩
          rw [hre] at this; cases this
    have hrest : rest = [] := by
      cases rest with
      | nil => rfl
      | cons x r =>
        obtain ⟨e, L⟩ := x
        have h1 := hall don.length don r e L (Nat.le_refl _) s.eq
        obtain ⟨o, ho, hni, _⟩ := hv.top don r e L s.eq
        exact absurd (s.sub e h1) hni
    subst hrest
    have hsame : mem don = fun i => listed.getD i false := by
      funext i
      cases hx : listed.getD i false with
      | true => exact mem_iff.2 (s.sub i hx)
      | false =>
        cases hm : mem don i with
        | false => rfl
        | true =>
          obtain ⟨p, L, q, rfl⟩ := mem_split (mem_iff.1 hm)
          have := hall p.length p q i L (Nat.le_refl _) (by rw [s.eq]; simp)
          rw [hx] at this; cases this
    have hk := s.vm
    simp only [vM] at hk
    rw [hsame] at hk
    exact hQ _ _ _ _ _ hk ⟨s.tm, s.sz, s.df, s.rel, s.ext⟩
  intro fuel
  induction fuel with
  | zero =>
    intro listed a w hsz hcl hcnt hs
    have hre : Region.ready .any ops listed = [] := by
      cases hr : Region.ready .any ops listed with
      | nil => rfl
      | cons i r =>
        exfalso
        have hi : i ∈ Region.ready .any ops listed := by rw [hr]; exact List.mem_cons_self ..
        obtain ⟨hun, o, ho, _⟩ := mem_ready.1 hi
        have hlt := (Array.getElem?_eq_some_iff.1 ho).1
        have : 0 < (List.range ops.size).countP fun j => !listed.getD j false := by
          refine List.countP_pos_iff.2 ⟨i, List.mem_range.2 hlt, ?_⟩
          simpa [Array.getD_eq_getD_getElem?, hsz, hlt] using hun
        omega
    exact ⟨hre, hnil listed a w hsz hcl hre hs⟩
  | succ fuel ih =>
    intro listed a w hsz hcl hcnt hs
    refine ⟨fun hre => hnil listed a w hsz hcl hre hs, fun i hi => ?_⟩
    obtain ⟨hun, o, ho, hed⟩ := mem_ready.1 hi
    have hlt := (Array.getElem?_eq_some_iff.1 ho).1
    have hXi : (fun i => listed.getD i false) i = false := by simpa [Array.getD_eq_getD_getElem?, hsz, hlt] using hun
    have hadd : (fun j => (listed.setIfInBounds i true).getD j false) = add (fun i => listed.getD i false) i := by
      funext j
      by_cases hji : j = i
      · subst hji; simp [add, hsz, hlt]
      · have : (j == i) = false := by simp [hji]
        simp only [add, this, Bool.or_false]
        exact getD_set_ne false (Ne.symm hji)
    have hcl' : Closed ops (fun j => (listed.setIfInBounds i true).getD j false) := by
      rw [hadd]
      intro k ok hok hk e he hb
      by_cases hki : k = i
      · subst hki
        rw [ho] at hok; cases hok
        simp [add, hed e he hb]
      · have : (k == i) = false := by simp [hki]
        simp only [add, this, Bool.or_false] at hk
        have h3 : listed.getD e.on false = true := hcl k ok hok hk e he hb
        simp only [add]
        rw [h3]
        rfl
    have hcnt' : ((List.range ops.size).countP fun j => !(listed.setIfInBounds i true).getD j false) ≤ fuel := by
      have := count_set (n := ops.size) (X := fun i => listed.getD i false) (Y := fun j => (listed.setIfInBounds i true).getD j false) (i := i) hlt hXi (fun j => congrFun hadd j)
      omega
    obtain ⟨don0, rest0, F0, V0, pos0, Aw0, H1, μ1, s0⟩ := hs
    obtain ⟨don, rest, F, V, pos, Aw, H, s, hhead⟩ := Sim.advance hv rest0 don0 F0 V0 pos0 Aw0 H1 s0
    by_cases hid : i ∈ don.map (·.1)
    · refine s.list hb0 hv hok hcl ho hXi hed hid fun μ' a' w' s' => ih _ _ _ (by simpa using hsz) hcl' hcnt' ⟨don, rest, F, V, pos, Aw, H, μ', ?_⟩
      rw [hadd]; exact s'
    · have hipl := hv.all i hlt
      rw [s.eq, List.map_append, List.mem_append] at hipl
      have hir := hipl.resolve_left hid
      rcases hhead with rfl | ⟨e, L, r, oe, rfl, hoe, hce⟩
      · simp at hir
      · have hei : i = e := by
          simp only [List.map_cons, List.mem_cons] at hir
          rcases hir with h | h
          · exact h
          · obtain ⟨p, L', q, rfl⟩ := mem_split h
            obtain ⟨o2, ho2, _, _, hj⟩ := hv.top (don ++ (e, L) :: p) q i L' (by rw [s.eq]; simp)
            have hanc := (hj e (by simp) oe hoe).1 hce
            have hxe := anc_ready hcl ho hed hanc
            obtain ⟨_, _, hni, _⟩ := hv.top don _ e L s.eq
            exact absurd (s.sub e hxe) hni
        subst hei
        refine s.effect hb0 hv hok hcl hoe hXi (by rw [ho] at hoe; cases hoe; exact hed) hce fun don' rest' F' V' pos' Aw' H' μ' a' w' s' => ih _ _ _ (by simpa using hsz) hcl' hcnt' ⟨don', rest', F', V', pos', Aw', H', μ', ?_⟩
        rw [hadd]; exact s'

/-- A statement whose order is drawn. -/
theorem draw_sound (hb0 : TabIn μ0 H0 w0) (hm : P.follows .mixedOrders = true) (hvk : vok ops pl = true) (hok : opsOk N ops.toList = true) {Q : Exit → Act → World → Prop} (hQ : ∀ ρ H μ a w, K ρ H → St N μ0 H0 w0 ρ H μ a w → Q .normal a w)
    {id : Nat} {ρ : Env} {H : MH} {μ : Mu} {a : Act} {w : World} (h : vM P ops pl [] ρ H K) (s : St N μ0 H0 w0 ρ H μ a w) : (Code.region id ops true).wp P Q a w := by
  have hv := vok_spec hvk
  refine wp_region_any hm (sim_any (K := K) (pl := pl) (ρ0 := ρ) (μ0 := μ0) (H0 := H0) (w0 := w0) hb0 hv hok hQ _ _ _ _ (by simp) ?_ (Nat.le_trans List.countP_le_length (by simp)) ?_)
  · intro i o ho hx
    simp [Array.getD_eq_getD_getElem?, Array.getElem?_replicate] at hx
    split at hx <;> simp at hx
  · have hX : (fun i => (Array.replicate ops.size false).getD i false) = fun _ => false := by
      funext i
      simp [Array.getD_eq_getD_getElem?, Array.getElem?_replicate]
      split <;> rfl
    rw [hX]
    have hρ : ∀ V Y, (∀ i, Y i = false) → ρof ops V Y ρ = ρ := by
      intro V Y hY
      funext t
      unfold ρof
      cases wr ops t with
      | none => rfl
      | some j => simp [hY j]
    refine ⟨[], pl, [], fun _ => .lit undef, fun _ => 0, fun _ => false, H, μ, by simp, ?_, fun i hi => by simp at hi, fun i hi => by simp at hi, ?_, s.sz, s.df, ?_, ?_, fun p i L q o hd => by simp at hd, fun i j hi => by simp at hi, fun i hi => by simp at hi⟩
    · rw [hρ _ _ (fun i => by simp [mem])]; exact h
    · rw [hρ _ _ (fun _ => rfl)]; exact s.tm
    · exact s.rel.heap rfl
    · exact s.ext.trans (Ext.heap rfl)

end
end Go.Proofs.YtcikcinkjbbnhaaDoor.M
