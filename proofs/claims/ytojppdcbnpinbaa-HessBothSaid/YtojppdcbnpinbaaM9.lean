/- The small machine, ninth part: an append is met. -/
import Derived.Test.YtojppdcbnpinbaaM8
set_option linter.unusedSimpArgs false
set_option linter.unusedVariables false
namespace Go.Proofs.Ytojppdcbnpinbaa.M
open Go

/-- What lies behind an object in its block may be taken into it. -/
theorem Rel.widen {μ H w} (h : Rel μ H w) {p : Nat} {l : Loc} {ob : MO} (hl : μ p = some l) (ho : hget H p = some ob) (hrw : ob.rw = true) {k : Nat} (hk : ob.cells.length + k ≤ l.ext) :
    ∃ extra : List MV, extra.length = k ∧ Rel μ (H.set p (some ⟨ob.cells ++ extra, true⟩)) w ∧ Ext μ H w μ (H.set p (some ⟨ob.cells ++ extra, true⟩)) w := by
  obtain ⟨cs, t, fz, hb, hsz, hlen, hfz, hcell⟩ := h.obj p l ob hl ho
  obtain rfl := hfz hrw
  have hplt := hget_lt ho
  refine ⟨(List.range k).map fun j => .lit (cs.getD (l.off + (ob.cells.length + j)) undef), by simp, ?_, ?_⟩
  · refine ⟨fun q l' hq => by rw [List.length_set]; exact h.bound q l' hq, fun q l' o' hq ho' => ?_, fun q r l1 l2 o1 o2 hq hr h1' h2' hrw' hne => ?_⟩
    · by_cases hpq : p = q
      · subst hpq
        rw [hget_set_same hplt] at ho'
        cases ho'
        rw [hl] at hq
        cases hq
        refine ⟨cs, t, (0, 0), hb, hsz, by simp; omega, fun _ => rfl, fun i v hv => ?_⟩
        by_cases hi : i < ob.cells.length
        · rw [List.getElem?_append_left hi] at hv
          exact hcell i v hv
        · rw [List.getElem?_append_right (by omega), List.getElem?_map, Option.map_eq_some_iff] at hv
          obtain ⟨j, hj, rfl⟩ := hv
          have hjk := (List.getElem?_eq_some_iff.1 hj).1
          simp only [List.length_range] at hjk
          have : j = i - ob.cells.length := by simpa [hjk] using hj.symm
          refine ⟨by simp [Ok], ?_⟩
          have hlt : l.off + i < cs.size := by omega
          have he : ob.cells.length + j = i := by omega
          rw [he]
          simp [conc, Array.getD, hlt]
      · rw [hget_set_ne hpq] at ho'
        exact h.obj q l' o' hq ho'
    · by_cases hpq : p = q
      · subst hpq
        rw [hget_set_ne hne] at h2'
        rw [hl] at hq
        cases hq
        exact h.inj p r l l2 ob o2 hl hr ho h2' hrw hne
      · rw [hget_set_ne hpq] at h1'
        by_cases hpr : p = r
        · subst hpr
          rw [hl] at hr
          cases hr
          exact h.inj q p l1 l o1 ob hq hl h1' ho hrw' hne
        · rw [hget_set_ne hpr] at h2'
          exact h.inj q r l1 l2 o1 o2 hq hr h1' h2' hrw' hne
  · refine ⟨Mle.refl μ, fun _ _ h => .inl h, by simp, Nat.le_refl _, fun b hb' hlt => ?_, fun b hlt hn => rfl, .refl w⟩
    obtain ⟨q, l', o, hq, hoq, hrw', hbb⟩ := hb'
    by_cases hpq : p = q
    · subst hpq
      rw [hl] at hq
      cases hq
      exact ⟨p, l, ob, hl, ho, hrw, hbb⟩
    · rw [hget_set_ne hpq] at hoq
      exact ⟨q, l', o, hq, hoq, hrw', hbb⟩

theorem setL_append : ∀ (vs : List MV) (a b : List MV), b.length = vs.length → setL (a ++ b) a.length vs = a ++ vs
  | [], a, b, h => by
    simp only [List.length_nil, List.length_eq_zero_iff] at h
    subst h
    simp [setL]
  | v :: vs, a, [], h => by simp at h
  | v :: vs, a, x :: b, h => by
    simp only [setL]
    have h1 : (a ++ x :: b).set a.length v = (a ++ [v]) ++ b := by simp
    rw [h1]
    have h2 := setL_append vs (a ++ [v]) b (by simpa using h)
    simp only [List.length_append, List.length_cons, List.length_nil] at h2
    rw [show a.length + 1 = a.length + (0 + 1) by omega, h2]
    simp

/-- An object gets a new number (and leaves out its first cells). -/
theorem Rel.move {μ H w} (h : Rel μ H w) {p : Nat} {l : Loc} {ob : MO} (hl : μ p = some l) (ho : hget H p = some ob) (hrw : ob.rw = true) {o : Nat} (hle : o ≤ ob.cells.length) :
    Rel (bind1 μ H.length ⟨l.b, l.off + o, l.ext - o⟩) (H.set p none ++ [some ⟨ob.cells.drop o, true⟩]) w := by
  have hun : μ H.length = none := h.unbound (Nat.le_refl _)
  have hmle : Mle μ (bind1 μ H.length ⟨l.b, l.off + o, l.ext - o⟩) := bind1_le hun
  obtain ⟨cs, t, fz, hb, hsz, hlen, hfz, hcell⟩ := h.obj p l ob hl ho
  have hold : ∀ q x, q ≠ H.length → hget (H.set p none ++ [some ⟨ob.cells.drop o, true⟩]) q = some x → q ≠ p ∧ hget H q = some x := by
    intro q x hq hx
    have hlt := hget_lt hx
    simp only [List.length_append, List.length_set, List.length_cons, List.length_nil] at hlt
    rw [hget_append (by rw [List.length_set]; omega)] at hx
    exact hget_kill hx
  have hnew : hget (H.set p none ++ [some ⟨ob.cells.drop o, true⟩]) H.length = some ⟨ob.cells.drop o, true⟩ := by
    have := hget_append_new (H := H.set p none) (o := ⟨ob.cells.drop o, true⟩)
    rwa [List.length_set] at this
  refine ⟨fun q l' hq => ?_, fun q l' x hq hx => ?_, fun q r l1 l2 o1 o2 hq hr h1 h2 hrw' hne => ?_⟩
  · simp only [List.length_append, List.length_set, List.length_cons, List.length_nil]
    unfold bind1 at hq
    split at hq
    · omega
    · have := h.bound q l' hq; omega
  · by_cases hqn : q = H.length
    · subst hqn
      rw [hnew] at hx
      cases hx
      simp only [bind1, if_true, Option.some.injEq] at hq
      subst hq
      refine ⟨cs, t, fz, hb, by simp only; omega, by simp; omega, fun _ => hfz hrw, fun i v hv => ?_⟩
      rw [List.getElem?_drop] at hv
      obtain ⟨h1, h2⟩ := hcell _ v hv
      obtain ⟨h3, h4⟩ := ok_mono hmle v h1
      exact ⟨h3, by rw [h4, Nat.add_assoc]; exact h2⟩
    · obtain ⟨hqp, hx'⟩ := hold q x hqn hx
      simp only [bind1, if_neg hqn] at hq
      exact (h.obj q l' x hq hx').mono hmle rfl
  · by_cases hqn : q = H.length
    · subst hqn
      simp only [bind1, if_true, Option.some.injEq] at hq
      subst hq
      obtain ⟨hrp, h2'⟩ := hold r o2 (Ne.symm hne) h2
      simp only [bind1, if_neg (Ne.symm hne)] at hr
      exact h.inj p r l l2 ob o2 hl hr ho h2' hrw (Ne.symm hrp)
    · obtain ⟨hqp, h1'⟩ := hold q o1 hqn h1
      simp only [bind1, if_neg hqn] at hq
      by_cases hrn : r = H.length
      · subst hrn
        simp only [bind1, if_true, Option.some.injEq] at hr
        subst hr
        exact h.inj q p l1 l o1 ob hq hl h1' ho hrw' hqp
      · obtain ⟨hrp, h2'⟩ := hold r o2 hrn h2
        simp only [bind1, if_neg hrn] at hr
        exact h.inj q r l1 l2 o1 o2 hq hr h1' h2' hrw' hne

theorem Ext.move {μ H w} (h : Rel μ H w) {p : Nat} {l : Loc} {ob : MO} (hl : μ p = some l) (ho : hget H p = some ob) (hrw : ob.rw = true) {o : Nat} {ob' : MO} {e : Nat} :
    Ext μ H w (bind1 μ H.length ⟨l.b, l.off + o, e⟩) (H.set p none ++ [some ob']) w := by
  have hun : μ H.length = none := h.unbound (Nat.le_refl _)
  refine ⟨bind1_le hun, fun q l' hq => ?_, by simp, Nat.le_refl _, fun b hb hlt => ?_, fun _ _ _ => rfl, .refl w⟩
  · unfold bind1 at hq
    split at hq
    · exact .inr (by omega)
    · exact .inl hq
  · obtain ⟨q, l', x, hq, hx, hxrw, hbb⟩ := hb
    by_cases hqn : q = H.length
    · subst hqn
      simp only [bind1, if_true, Option.some.injEq] at hq
      subst hq
      exact ⟨p, l, ob, hl, ho, hrw, hbb⟩
    · simp only [bind1, if_neg hqn] at hq
      have hlt := hget_lt hx
      simp only [List.length_append, List.length_set, List.length_cons, List.length_nil] at hlt
      rw [hget_append (by rw [List.length_set]; omega)] at hx
      exact ⟨q, l', x, hq, (hget_kill hx).2, hxrw, hbb⟩

theorem run_append {P : Program} {ρ : Env} {a : Act} {dst typ pos aft grd} {s x : Operand} {ats : Array TypeId} (w : World) :
    (execOp a.eval ⟨dst, .call { callee := .builtin .append, args := #[s, x], argTypes := ats }, typ, pos, aft, grd⟩).run P w =
      ((Builtin.append_ ats typ #[a.eval s, a.eval x]).run P w).andThen fun v w => .ok (.value v) w := by
  simp [execOp, resolve, invoke, builtin]

theorem run_zeroValue' {P : Program} {t : TypeId} {z : List Value} (h : (ty P t).zero = some z) : ∃ v, (∀ w, (zeroValue t).run P w = .ok v w) ∧ v.cells = z.toArray := by
  have h' : ((P.info? t).bind (·.zero)).map (·.cells.toList) = some z := h
  cases hi : P.info? t with
  | none => rw [hi] at h'; simp at h'
  | some i =>
    rw [hi] at h'
    simp only [Option.bind_some, Option.map_eq_some_iff] at h'
    obtain ⟨v, hv, hz⟩ := h'
    exact ⟨v, fun w => by simp [zeroValue, typeInfo, hi, hv], by rw [← hz]⟩

theorem append_grow {P : Program} {ats : Array TypeId} {t t1 e e1 : TypeId} {inf : TypeInfo} {zv : Value} {typ : TypeId} {base : Option Addr} {n c m : Nat} {x : Value} {w : World} {old new : List Value}
    (hat : ats[0]? = some t) (hat1 : ats[1]? = some t1) (hu : P.underlying t = some (.slice e)) (hu1 : P.underlying t1 = some (.slice e1)) (hinf : P.info? e = some inf)
    (hz : ∀ w, (zeroValue e).run P w = .ok zv w) (hlen : (Builtin.lenOf x).run P w = .ok m w) (hold : (Builtin.firstCells inf.size n (.slice base n c)).run P w.drew = .ok old.toArray w.drew)
    (hnew : (Builtin.firstCells inf.size m x).run P w.drew = .ok new.toArray w.drew) (hneed : ¬ n + m ≤ c) (hle : n + m ≤ 2 ^ 36) (hb : 0 < inf.bytes) (hbytes : inf.bytes ≤ 2 ^ 10) :
    ∃ cap, n + m ≤ cap ∧ (Builtin.append_ ats typ #[.slice base n c, x]).run P w =
      .ok (.slice (some ⟨w.heap.size, 0, none⟩) (n + m) cap) { w with heap := w.heap.push (.cells ((old ++ new) ++ (Builtin.zeroCells zv.cells (cap - (n + m))).toList).toArray e), drawn := w.drawn + 1 } := by
  have hroom : ¬ (281474976710656 < (Builtin.nextslicecap (n + m) c : Nat) * inf.bytes) := by
    have := nextcap_le (n + m) c (by omega) hle
    have : Builtin.nextslicecap (n + m) c * inf.bytes ≤ 2 ^ 38 * 2 ^ 10 := Nat.mul_le_mul this hbytes
    omega
  have hbig : ¬ (9223372036854775807 < ((n : Int) + (m : Int)) ∧ inf.bytes = 0) := by omega
  refine ⟨(Question.appendCap (n + m) c e).cut (w.tape w.drawn (Question.appendCap (n + m) c e)), by simp [Question.cut], ?_⟩
  simp [Builtin.append_, hat, hat1, run_underlying hu, run_underlying hu1, run_sizeOf hinf, run_typeInfo hinf, hlen, Question.forced, hneed, hbig, hroom, hold, hnew, hz, newRow]
  have : ∀ Z : Array Value, old.toArray ++ (new.toArray ++ Z) = (old ++ (new ++ Z.toList)).toArray := fun Z => by apply Array.ext'; simp
  rw [this]
  rfl

theorem append_sound {P : Program} {s x : Operand} {ats : Array TypeId} {H H' : MH} {ρ : Env} {r : Option (List MV × Nat × Nat)} (h : appV P ats (ev ρ s) (ev ρ x) H = some (r, H'))
    {μ : Mu} {a : Act} {w : World} (ht : Tm μ ρ a) (hr : Rel μ H w) {dst typ pos aft grd} :
    ∃ v w', (execOp a.eval ⟨dst, .call { callee := .builtin .append, args := #[s, x], argTypes := ats }, typ, pos, aft, grd⟩).run P w = .ok (.value v) w' ∧
      match r with
      | none => v = .slice none 0 0 ∧ H' = H ∧ w' = w
      | some (cs, n, esz) => ∃ c μ', n ≤ c ∧ v = conc μ' (.slice H.length 0 n c esz) ∧ Ok μ' (.slice H.length 0 n c esz) ∧ Rel μ' H' w' ∧ Ext μ H w μ' H' w' := by
  rw [run_append (ρ := ρ)]
  have hs := ht.ev s
  have hx := ht.ev x
  unfold appV at h
  split at h
  · rename_i t t1 hat hat1
    split at h
    · rename_i esz eb z ei _ _ _ _ hk hk1
      obtain ⟨e, inf, hu, hinf, rfl, rfl, hz, _⟩ := ty_slice hk
      obtain ⟨e1, inf1, hu1, _⟩ := ty_slice hk1
      split at h
      · rename_i new m htail
        obtain ⟨hnok, hnlen, hlen, hfirst⟩ := run_tail htail hx.2 hr (w := w) (P := P)
        have hfirstd := (run_tail htail hx.2 (hr.heap (w' := w.drew) rfl) (P := P)).2.2.2
        rw [hx.1] at hlen hfirst hfirstd
        split at h
        · rename_i hc
          obtain ⟨hesz, hebp, hzl, hone, hbytes⟩ := hc
          obtain ⟨zv, hzv, hzc⟩ := run_zeroValue' (P := P) (t := e) (z := z) (by simp [ty, hinf]; simpa using hz.symm)
          have hnz : (IntKind.i64.max : Int) = 9223372036854775807 := by decide
          split at h
          · rename_i hsv
            rw [hsv] at hs
            have hse : a.eval s = .slice none 0 0 := by rw [← hs.1]; simp [conc]
            split at h
            · rename_i hm
              cases h
              subst hm
              refine ⟨.slice none 0 0, w, ?_, rfl, rfl, rfl⟩
              simp only [Nat.zero_mul, List.length_eq_zero_iff] at hnlen
              subst hnlen
              simp [Builtin.append_, hat, hat1, hse, run_underlying hu, run_underlying hu1, run_sizeOf hinf, hlen, hfirst, Result.andThen]
            · rename_i hm
              split at h
              · rename_i hmle
                cases h
                obtain ⟨c, hmc, hrun⟩ := append_grow (typ := typ) (P := P) (base := none) (n := 0) (c := 0) (old := []) (new := concs μ new) hat hat1 hu hu1 hinf hzv hlen (by simp [Builtin.firstCells]) hfirstd (by omega) (by omega) hebp hbytes
                simp only [Nat.zero_add, List.nil_append] at hmc hrun
                rw [hse, hrun]
                refine ⟨_, _, rfl, c, bind1 μ H.length ⟨w.heap.size, 0, new.length + (Builtin.zeroCells zv.cells (c - m)).toList.length⟩, hmc, ?_, ?_, ?_, ?_⟩
                · simp [conc, loc, bind1]
                · simp only [Ok, bind1, if_true]
                  refine ⟨hmc, _, rfl, ?_⟩
                  have : (Builtin.zeroCells zv.cells (c - m)).size = (c - m) * inf.size := by rw [zeroCells_length, hzc]; simp [hzl]
                  simp only [Array.length_toList, this, hnlen]
                  rw [← Nat.add_mul]
                  have : m + (c - m) = c := by omega
                  rw [this]; omega
                · exact (hr.grow (some ⟨new, true⟩)).bindMore (hr.unbound (Nat.le_refl _)) hget_append_new rfl hnok rfl
                · exact ((Ext.refl μ H w).grow hr (some ⟨new, true⟩)).bind (hr.unbound (Nat.le_refl _)) (Nat.le_refl _) rfl rfl
              · cases h
          · rename_i p o n c z' hsv
            rw [hsv] at hs
            obtain ⟨hnc, l, hl, hle⟩ := by simpa [Ok] using hs.2
            have hse : a.eval s = .slice (some ⟨l.b, l.off + o, none⟩) n c := by rw [← hs.1]; simp [conc, loc_some hl]
            split at h
            · rename_i ob hob
              split at h
              · rename_i hcond
                cases h
                obtain ⟨rfl, hrw, hend, hmle⟩ := hcond
                by_cases hfit : n + m ≤ c
                · -- there is room: the block is written behind the object
                  obtain ⟨cs, t0, fz, hb, hsz, hlen0, hfz, hcell⟩ := hr.obj p l ob hl hob
                  have hroom : ob.cells.length + m * inf.size ≤ l.ext := by
                    have h1 : (n + m) * inf.size ≤ c * inf.size := Nat.mul_le_mul_right _ hfit
                    rw [Nat.add_mul] at h1
                    omega
                  obtain ⟨extra, hexl, hr1, he1⟩ := hr.widen hl hob hrw hroom
                  have hplt := hget_lt hob
                  obtain ⟨w2, hst, hr2, he2⟩ := Rel.stores (P := P) hl new _ w (o + n * inf.size) 0 ⟨ob.cells ++ extra, true⟩ hr1 (hget_set_same hplt _) rfl (by simp; omega) hnok hone
                  rw [List.set_set] at hr2 he2
                  have hset : setL (ob.cells ++ extra) (o + n * inf.size + 0) new = ob.cells ++ new := by
                    rw [Nat.add_zero, hend]
                    exact setL_append new ob.cells extra (by omega)
                  rw [hset] at hr2 he2
                  have ho2 : hget (H.set p (some ⟨ob.cells ++ new, true⟩)) p = some ⟨ob.cells ++ new, true⟩ := hget_set_same hplt _
                  have hole : o ≤ ob.cells.length := by omega
                  have hr3 := hr2.move hl ho2 rfl (o := o) (by simp; omega)
                  have he3 := Ext.move (w := w2) hr2 hl ho2 rfl (o := o) (ob' := ⟨(ob.cells ++ new).drop o, true⟩) (e := l.ext - o)
                  rw [List.set_set, List.length_set] at hr3 he3
                  rw [List.drop_append_of_le_length hole] at hr3 he3
                  refine ⟨.slice (some ⟨l.b, l.off + o, none⟩) (n + m) c, w2, ?_, c, _, hfit, ?_, ?_, hr3, (he1.trans he2).trans he3⟩
                  · rw [hse]
                    have hadd : (⟨l.b, l.off + o, none⟩ : Addr).add (n * inf.size) = ⟨l.b, l.off + (o + n * inf.size), none⟩ := by rw [Addr.add_lit]; simp [Nat.add_assoc]
                    simp [Builtin.append_, hat, hat1, run_underlying hu, run_underlying hu1, run_sizeOf hinf, hlen, hfit, hfirst, hadd, hst]
                  · simp [conc, loc, bind1]
                  · simp only [Ok, bind1, if_true]
                    exact ⟨hfit, _, rfl, by simp only; omega⟩
                · -- a new block
                  have hold : cellsAt H p o (n * inf.size) = some (ob.cells.drop o) := by
                    unfold cellsAt
                    simp only [hob, Option.bind_some]
                    rw [if_pos (by omega)]
                    congr 1
                    rw [List.take_of_length_le (by simp; omega)]
                  have hc1 := (hr.heap (w' := w.drew) rfl).cells (P := P) hl hold
                  obtain ⟨cap, hmc, hrun⟩ := append_grow (typ := typ) (P := P) (base := some ⟨l.b, l.off + o, none⟩) (n := n) (c := c) (old := concs μ (ob.cells.drop o)) (new := concs μ new) hat hat1 hu hu1 hinf hzv hlen
                    (by simp [Builtin.firstCells, hc1.2.1]) hfirstd hfit hmle hebp hbytes
                  rw [hse, hrun]
                  have hcat : concs μ (ob.cells.drop o) ++ concs μ new = concs μ (ob.cells.drop o ++ new) := by simp [concs_map]
                  rw [hcat]
                  refine ⟨_, _, rfl, cap, bind1 μ H.length ⟨w.heap.size, 0, (ob.cells.drop o ++ new).length + (Builtin.zeroCells zv.cells (cap - (n + m))).toList.length⟩, hmc, ?_, ?_, ?_, ?_⟩
                  · simp [conc, loc, bind1]
                  · simp only [Ok, bind1, if_true]
                    refine ⟨hmc, _, rfl, ?_⟩
                    have : (Builtin.zeroCells zv.cells (cap - (n + m))).size = (cap - (n + m)) * inf.size := by rw [zeroCells_length, hzc]; simp [hzl]
                    have hl3 : (ob.cells.drop o ++ new).length = (n + m) * inf.size := by
                      rw [List.length_append, List.length_drop, hnlen, Nat.add_mul]; omega
                    simp only [Array.length_toList, this, hl3]
                    rw [← Nat.add_mul]
                    have : n + m + (cap - (n + m)) = cap := by omega
                    rw [this]; omega
                  · have hk := (hr.kill p).grow (some ⟨ob.cells.drop o ++ new, true⟩)
                    have hnew0 := hget_append_new (H := H.set p none) (o := ⟨ob.cells.drop o ++ new, true⟩)
                    rw [List.length_set] at hnew0
                    exact hk.bindMore (hr.unbound (Nat.le_refl _)) hnew0 rfl (by rw [oks_iff]; intro v hv; rcases List.mem_append.1 hv with h1 | h1; exact (oks_iff μ _).1 hc1.1 v h1; exact (oks_iff μ _).1 hnok v h1) rfl
                  · exact (((Ext.refl μ H w).kill p).grow (hr.kill p) (some ⟨ob.cells.drop o ++ new, true⟩)).bind (hr.unbound (Nat.le_refl _)) (Nat.le_refl _) rfl rfl
              · cases h
            · cases h
          · cases h
        · cases h
      · cases h
    · cases h
  · cases h

end Go.Proofs.Ytojppdcbnpinbaa.M
