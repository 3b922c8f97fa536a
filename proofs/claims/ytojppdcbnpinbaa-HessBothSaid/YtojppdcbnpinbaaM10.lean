/- The small machine, tenth part: calls, one operation after another. -/
import Derived.Test.YtojppdcbnpinbaaM9
set_option linter.unusedSimpArgs false
set_option linter.unusedVariables false
namespace Go.Proofs.Ytojppdcbnpinbaa.M
open Go

/-- The function with these values ends, with a value and a world that fit. -/
def Does (P : Program) (f : FuncId) (xs : Array Value) (w : World) (R : Value → World → Prop) : Prop :=
  match (callFunc f xs).run P w with
  | .ok (.value v) w' => R v w'
  | .ok (.enter g ys) w' => Calls P g ys w' fun e w'' => match e with
    | .returned v => R v w''
    | _ => False
  | _ => False

/-- What a function does to the small memory. -/
def Spec (P : Program) (f : FuncId) (args : List MV) (H : MH) (K : MV → MH → Prop) : Prop :=
  ∀ μ w, Rel μ H w → Oks μ args → Does P f (concs μ args).toArray w fun x w' => ∃ v H' μ', K v H' ∧ x = conc μ' v ∧ Ok μ' v ∧ Rel μ' H' w' ∧ Ext μ H w μ' H' w'

theorem Does.mono {P f xs w} {R R' : Value → World → Prop} (h : Does P f xs w R) (hr : ∀ v w', R v w' → R' v w') : Does P f xs w R' := by
  unfold Does at *
  split at h
  · exact hr _ _ h
  · refine h.mono fun e w'' he => ?_
    cases e with
    | returned v => exact hr _ _ he
    | _ => exact he.elim
  · exact h.elim

theorem Spec.mono {P f args H} {K K' : MV → MH → Prop} (h : Spec P f args H K) (hk : ∀ v H', K v H' → K' v H') : Spec P f args H K' :=
  fun μ w hr ha => (h μ w hr ha).mono fun x w' ⟨v, H', μ', h1, h2⟩ => ⟨v, H', μ', hk _ _ h1, h2⟩

/-- What an operation that writes or calls does. -/
def effM (P : Program) (o : Op) (ρ : Env) (H : MH) (K : MV → MH → Prop) : Prop :=
  match o with
  | .store t x y => match storeV P t (ev ρ x) (ev ρ y) H with
    | some H' => K (.lit undef) H'
    | none => False
  | .call { callee := .value f, args, .. } => match ev ρ f with
    | .fn (.func g) a b => Spec P g (a ++ evs ρ args ++ b) H K
    | _ => False
  | .call { callee := .builtin .append, args := ⟨[s, x]⟩, argTypes } => match appV P argTypes (ev ρ s) (ev ρ x) H with
    | some (none, H') => K (.lit (.slice none 0 0)) H'
    | some (some (cs, n, esz), H') => ∀ c, n ≤ c → K (.slice H.length 0 n c esz) H'
    | none => False
  | _ => False

inductive Cls where
  | pure | load | alloc | eff
  deriving DecidableEq

def cls : Op → Cls
  | .load .. => .load
  | .alloc _ | .box .. | .buildSlice .. | .makeSlice .. => .alloc
  | .store .. => .eff
  | .call { callee := .value _, .. } => .eff
  | .call { callee := .builtin .append, .. } => .eff
  | _ => .pure

def loadO (P : Program) (o : Op) (ρ : Env) (H : MH) : Option MV := match o with
  | .load t x => loadV P t (ev ρ x) H
  | _ => none

/-- One operation. -/
def stepM (P : Program) (o : Op) (ρ : Env) (H : MH) (K : MV → MH → Prop) : Prop :=
  match cls o with
  | .pure => ∃ v, pureV P o ρ = some v ∧ K v H
  | .load => ∃ v, loadO P o ρ H = some v ∧ K v H
  | .alloc => ∃ cs f, allocV P o ρ = some (cs, f) ∧ K (f H.length) (H ++ [some ⟨cs, true⟩])
  | .eff => effM P o ρ H K

theorem call_run {P : Program} {a : Act} {dst typ pos aft grd} {f : Operand} {args : Array Operand} {ats : Array TypeId} {g : FuncId} {xs ys : Array Value} (hf : a.eval f = .func (.func g) xs ys) (w : World) :
    (execOp a.eval ⟨dst, .call { callee := .value f, args := args, argTypes := ats }, typ, pos, aft, grd⟩).run P w = (callFunc g (xs ++ args.map a.eval ++ ys)).run P w := by
  simp [execOp, resolve, hf, Deferred.ofValue, invoke]

theorem eff_sound {P : Program} {o : Oper} {ρ : Env} {H : MH} {K : MV → MH → Prop} (h : effM P o.op ρ H K) {μ : Mu} {a : Act} {w : World} (ht : Tm μ ρ a) (hr : Rel μ H w)
    {next : Act → World → Prop} {Q : Exit → Act → World → Prop}
    (hn : ∀ v H' μ' w', K v H' → Ok μ' v → Rel μ' H' w' → Ext μ H w μ' H' w' → next (a.put o.dst (conc μ' v)) w') : o.wp P a w next Q := by
  obtain ⟨dst, op, typ, pos, aft, grd⟩ := o
  simp only at h hn
  unfold effM at h
  unfold Oper.wp
  split at h
  · rename_i t x y
    split at h
    · rename_i H' hs
      obtain ⟨w', hrun, hr', he⟩ := store_sound (P := P) hs ht hr ⟨dst, .store t x y, typ, pos, aft, grd⟩ rfl
      rw [hrun, Oper.upon_skip]
      have := hn _ _ μ w' h (by simp [Ok]) hr' he
      simpa [conc] using this
    · exact h.elim
  · rename_i f args ats
    split at h
    · rename_i g xs ys hf
      have hfe := ht.ev f
      rw [hf] at hfe
      have hfe1 : a.eval f = .func (.func g) (concs μ xs).toArray (concs μ ys).toArray := by rw [← hfe.1]; simp [conc]
      have hargs := ht.evs args
      have hok : Oks μ (xs ++ evs ρ args ++ ys) := by
        have : Oks μ xs ∧ Oks μ ys := by simpa [Ok] using hfe.2
        rw [oks_iff]
        intro v hv
        simp only [List.mem_append] at hv
        rcases hv with (h1 | h1) | h1
        · exact (oks_iff μ xs).1 this.1 v h1
        · exact (oks_iff μ _).1 hargs.2 v h1
        · exact (oks_iff μ ys).1 this.2 v h1
      have hd := h μ w hr hok
      have hall : (concs μ (xs ++ evs ρ args ++ ys)).toArray = (concs μ xs).toArray ++ args.map a.eval ++ (concs μ ys).toArray := by
        rw [hargs.1]; simp [concs_map]
      rw [hall] at hd
      rw [call_run hfe1]
      unfold Does at hd
      split at hd
      · rename_i v w' hrun
        rw [hrun, Oper.upon_value]
        obtain ⟨u, H', μ', hk, rfl, hok', hr', he⟩ := hd
        exact hn u H' μ' w' hk hok' hr' he
      · rename_i g' zs w' hrun
        rw [hrun, Oper.upon_enter]
        refine hd.mono fun e w'' he => ?_
        cases e with
        | returned v =>
          obtain ⟨u, H', μ', hk, rfl, hok', hr', he⟩ := he
          exact hn u H' μ' w'' hk hok' hr' he
        | panicked c => exact he.elim
        | outgrown => exact he.elim
      · exact hd.elim
    · exact h.elim
  · rename_i s x ats
    split at h
    · rename_i H' happ
      obtain ⟨v, w', hrun, hv, rfl, rfl⟩ := append_sound (P := P) happ ht hr (dst := dst) (typ := typ) (pos := pos) (aft := aft) (grd := grd)
      rw [hrun, Oper.upon_value, hv]
      have := hn _ _ μ w' h (by simp [Ok]) hr (Ext.refl _ _ _)
      simpa [conc] using this
    · rename_i cs n esz H' happ
      obtain ⟨v, w', hrun, c, μ', hc, hv, hok, hr', he⟩ := append_sound (P := P) happ ht hr (dst := dst) (typ := typ) (pos := pos) (aft := aft) (grd := grd)
      rw [hrun, Oper.upon_value, hv]
      exact hn _ _ μ' w' (h c hc) hok hr' he
    · exact h.elim
  · exact h.elim

theorem step_sound {P : Program} {o : Oper} {ρ : Env} {H : MH} {K : MV → MH → Prop} (h : stepM P o.op ρ H K) {μ : Mu} {a : Act} {w : World} (ht : Tm μ ρ a) (hr : Rel μ H w)
    {next : Act → World → Prop} {Q : Exit → Act → World → Prop}
    (hn : ∀ v H' μ' w', K v H' → Ok μ' v → Rel μ' H' w' → Ext μ H w μ' H' w' → next (a.put o.dst (conc μ' v)) w') : o.wp P a w next Q := by
  unfold stepM at h
  split at h
  · obtain ⟨v, hv, hk⟩ := h
    have := pure_sound hv ht
    unfold Oper.wp
    rw [this.1 w, Oper.upon_value]
    exact hn v H μ w hk this.2 hr (Ext.refl _ _ _)
  · obtain ⟨v, hv, hk⟩ := h
    unfold loadO at hv
    split at hv
    · rename_i t x he
      have := load_sound hv ht hr o he
      unfold Oper.wp
      rw [this.1, Oper.upon_value]
      exact hn v H μ w hk this.2 hr (Ext.refl _ _ _)
    · cases hv
  · obtain ⟨cs, f, hv, hk⟩ := h
    obtain ⟨hok, v, t, hrun, hval⟩ := alloc_sound hv ht w
    unfold Oper.wp
    rw [hrun, Oper.upon_value]
    have hun := hr.unbound (Nat.le_refl H.length)
    have hb := (hr.grow (some ⟨cs, true⟩)).bind hun hget_append_new (cs := (concs μ cs).toArray) (t := t) rfl hok (w' := { w with heap := w.heap.push (.cells (concs μ cs).toArray t) }) rfl
    have he := ((Ext.refl μ H w).grow hr (some ⟨cs, true⟩)).bind hun (Nat.le_refl _) (l := ⟨w.heap.size, 0, cs.length⟩) (x := .cells (concs μ cs).toArray t) rfl (w' := { w with heap := w.heap.push (.cells (concs μ cs).toArray t) }) rfl
    obtain ⟨h1, h2⟩ := hval _ H.length (show bind1 μ H.length ⟨w.heap.size, 0, cs.length⟩ H.length = _ by simp [bind1])
    rw [← h1]
    exact hn _ _ _ _ hk h2 hb he
  · exact eff_sound h ht hr hn

/-- Is a guarded operation carried out? -/
def wantedM (full : List Oper) (o : Oper) (ρ : Env) : Bool :=
  match o.guard with
  | none => true
  | some (j, want) => match (full[j]?).bind (·.dst) with
    | some d => asB (ρ d) == some want
    | none => false

theorem asB_conc {μ : Mu} {v : MV} {b : Bool} : asB v = some b ↔ conc μ v = .bool b := by
  cases v with
  | lit v => cases v <;> simp [asB, conc]
  | _ => simp [asB, conc]

theorem wanted_sound {full : Array Oper} {o : Oper} {ρ : Env} {μ : Mu} {a : Act} (ht : Tm μ ρ a) : Region.wanted o (yielded full a.tmps) = wantedM full.toList o ρ := by
  unfold Region.wanted wantedM
  cases hg : o.guard with
  | none => rfl
  | some jw =>
    obtain ⟨j, want⟩ := jw
    simp only [yielded]
    have hj : full.toList[j]? = full[j]? := by simp
    rw [hj]
    cases hd : (full[j]?).bind (·.dst) with
    | none => simp
    | some d =>
      simp only [Option.bind_some]
      have hv := ht.val d
      cases ht' : a.tmps[d]? with
      | none =>
        have : conc μ (ρ d) = undef := by rw [hv]; simp [Array.getD_eq_getD_getElem?, ht']
        cases hb : asB (ρ d) with
        | none => simp
        | some b => rw [asB_conc (μ := μ), this] at hb; cases hb
      | some x =>
        have : conc μ (ρ d) = x := by rw [hv]; simp [Array.getD_eq_getD_getElem?, ht']
        cases hb : asB (ρ d) with
        | none =>
          cases x with
          | bool b => have := (asB_conc (μ := μ)).2 this; rw [this] at hb; cases hb
          | _ => simp
        | some b =>
          have := (asB_conc (μ := μ)).1 hb ▸ this
          subst this
          simp

def mops (P : Program) (full : List Oper) : List Oper → Env → MH → (Env → MH → Prop) → Prop
  | [], ρ, H, K => K ρ H
  | o :: rest, ρ, H, K =>
    if wantedM full o ρ = true then stepM P o.op ρ H fun v H' => mops P full rest (put ρ o.dst v) H' K
    else mops P full rest (put ρ o.dst (.lit undef)) H K

/-- The state of a walk, seen from where it began. -/
structure St (N : Nat) (μ0 : Mu) (H0 : MH) (w0 : World) (ρ : Env) (H : MH) (μ : Mu) (a : Act) (w : World) : Prop where
  tm : Tm μ ρ a
  sz : a.tmps.size = N
  df : a.defers = []
  rel : Rel μ H w
  ext : Ext μ0 H0 w0 μ H w

def opsOk (N : Nat) (l : List Oper) : Bool := l.all fun o => o.dst.all (· < N)

theorem put_size (a : Act) (d : Option Tmp) (v : Value) : (a.put d v).tmps.size = a.tmps.size := by cases d <;> simp [Act.put]
theorem put_defers (a : Act) (d : Option Tmp) (v : Value) : (a.put d v).defers = a.defers := by cases d <;> simp [Act.put]

theorem mops_sound {P : Program} {full : Array Oper} {N : Nat} {μ0 : Mu} {H0 : MH} {w0 : World} {K : Env → MH → Prop} {Q : Exit → Act → World → Prop}
    (hQ : ∀ ρ H μ a w, K ρ H → St N μ0 H0 w0 ρ H μ a w → Q .normal a w) :
    ∀ (n : Nat) (k : Nat) (ρ : Env) (H : MH) (μ : Mu) (a : Act) (w : World), k + n = full.size → opsOk N (full.toList.drop k) = true → mops P full.toList (full.toList.drop k) ρ H K → St N μ0 H0 w0 ρ H μ a w →
      wpOps P full Q ((List.range' k n)) a w
  | 0, k, ρ, H, μ, a, w, hk, hok, h, hs => by
    rw [List.drop_of_length_le (by simp; omega)] at h
    exact hQ ρ H μ a w h hs
  | n + 1, k, ρ, H, μ, a, w, hk, hok, h, hs => by
    have hlt : k < full.toList.length := by simp; omega
    rw [List.drop_eq_getElem_cons hlt] at h hok
    simp only [opsOk, List.all_cons, Bool.and_eq_true] at hok
    simp only [mops] at h
    rw [List.range'_succ, wpOps_cons]
    unfold wpOp
    have hget : full[k]? = some full.toList[k] := by simp at hlt; simp [hlt]
    rw [hget]
    simp only
    have hd : ∀ t, full.toList[k].dst = some t → t < a.tmps.size := by
      intro t he
      have h1 := hok.1
      rw [he] at h1
      rw [hs.sz]
      simpa using h1
    rw [wanted_sound hs.tm]
    split
    · rename_i hw
      rw [if_pos hw] at h
      refine .inl (step_sound h hs.tm hs.rel fun v H' μ' w' hk' hv hr he => ?_)
      exact mops_sound hQ n (k + 1) _ H' μ' _ w' (by omega) hok.2 hk'
        ⟨(hs.tm.mono he.mono).put _ hd hv, by rw [put_size]; exact hs.sz, by rw [put_defers]; exact hs.df, hr, hs.ext.trans he⟩
    · rename_i hw
      rw [if_neg hw] at h
      have := hs.tm.put full.toList[k].dst hd (v := .lit undef) (by simp [Ok])
      rw [conc] at this
      exact mops_sound hQ n (k + 1) _ H μ _ w (by omega) hok.2 h ⟨this, by rw [put_size]; exact hs.sz, by rw [put_defers]; exact hs.df, hs.rel, hs.ext⟩

end Go.Proofs.Ytojppdcbnpinbaa.M
