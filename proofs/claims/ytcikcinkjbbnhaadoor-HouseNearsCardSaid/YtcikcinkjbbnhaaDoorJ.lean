/- From the small machine to the call itself: arguments that are read, and what a call answers. -/
import Derived.Test.YtcikcinkjbbnhaaDoorM19
import Derived.Below
import Derived.Lib.LaidTab
import Derived.Stop.LaidErr
set_option linter.unusedSimpArgs false
set_option linter.unusedVariables false
namespace Go.Proofs.YtcikcinkjbbnhaaDoor.M
open Go

theorem wf_u64 {a : Int} (h : (Lit.int .u64 a).wf = true) : 0 ≤ a ∧ a < 18446744073709551616 := by
  simp only [Lit.wf, IntKind.min, IntKind.max, IntKind.signed, IntKind.bits, Bool.and_eq_true] at h
  simp at h; omega
theorem wf_i64 {a : Int} (h : (Lit.int .i64 a).wf = true) : -9223372036854775808 ≤ a ∧ a < 9223372036854775808 := by
  simp only [Lit.wf, IntKind.min, IntKind.max, IntKind.signed, IntKind.bits, Bool.and_eq_true, decide_eq_true_eq] at h
  simp at h; omega

/-- What the tables tell, out of what a row's condition says of each of them. -/
theorem tabT_cell {w : World} (h : ∀ x ∈ tabL, ∀ o v, x.2[o]? = some v → w.cell? ⟨x.1, o, none⟩ = some v) : ∀ b o v, tabT b o = some v → w.cell? ⟨b, o, none⟩ = some v := by
  intro b o v hv
  unfold tabT at hv
  cases hf : tabL.find? fun x => Nat.beq x.1 b with
  | none => rw [hf] at hv; cases hv
  | some x =>
    rw [hf] at hv
    have h1 := List.find?_some hf
    have hb : x.1 = b := Nat.eq_of_beq_eq_true h1
    have := h x (List.mem_of_find?_eq_some hf) o v hv
    rw [hb] at this; exact this
theorem tab_cell {P : Program} {W : World} {name : String} {k : IntKind} {zs : List Int} {g : Nat} (h : Lib.TabIs P W name k zs) (hg : P.globalNamed name = some g) (o : Nat) (v : Value) (hv : (zs.map fun z => Value.int k z)[o]? = some v) : W.cell? ⟨g, o, none⟩ = some v := by
  rw [List.getElem?_map, Option.map_eq_some_iff] at hv
  obtain ⟨z, hz, rfl⟩ := hv
  have hi := (List.getElem?_eq_some_iff.1 hz).1
  have := h.cell hg o hi
  rw [this, List.getD_eq_getElem?_getD, hz]; rfl

/-- Nothing may be written. -/
def RO (H : MH) : Prop := ∀ p o, hget H p = some o → o.rw = false

theorem calls_of_spec {P : Program} {f : FuncId} {fn : Func} {c : Code} (hf : P.funcs[f]? = some fn) (hb : fn.body = some c) (hname : fn.name ≠ "runtime.NumGoroutine") {args : List MV} {H : MH} {b : Bool}
    (hs : Spec P f args H fun v H' => v = .lit (.bool b) ∧ H' = H) {μ : Mu} {w : World} (hr : Rel μ H w) (htab : ∀ b o v, tabT b o = some v → w.cell? ⟨b, o, none⟩ = some v) (ha : Oks μ args) (hro : RO H) :
    Calls P f (concs μ args).toArray w fun e w' => e = .returned (.bool b) ∧ Go.RowKit.Below w.heap.size w w' := by
  have h := hs μ w hr ⟨htab, fun b o v _ ⟨p, l, x, _, hx, hrw, _⟩ => by rw [hro p x hx] at hrw; cases hrw⟩ ha
  have hcall : (callFunc f (concs μ args).toArray).run P w = .ok (.enter f (concs μ args).toArray) w := by
    simp [callFunc, hf, hname, hb]
  unfold Does at h
  rw [hcall] at h
  simp only at h
  refine h.mono fun e w' he => ?_
  cases e with
  | returned v =>
    obtain ⟨u, H', μ', ⟨rfl, rfl⟩, rfl, _, _, hx⟩ := he
    refine ⟨by simp [conc], ⟨hx.same.os, hx.same.tape, hx.same.output, hx.size, fun k hk => hx.frame k hk ?_⟩⟩
    rintro ⟨p, l, o, _, ho, hrw, _⟩
    rw [hro p o ho] at hrw
    cases hrw
  | _ => exact he.elim

theorem RO.nil : RO [] := fun p o h => by simp [hget] at h
theorem RO.push {H : MH} (h : RO H) {o : MO} (ho : o.rw = false) : RO (H ++ [some o]) := by
  intro p x hx
  by_cases hp : p < H.length
  · rw [hget_append hp] at hx; exact h p x hx
  · have := hget_lt hx
    simp only [List.length_append, List.length_cons, List.length_nil] at this
    have : p = H.length := by omega
    subst this
    rw [hget_append_new] at hx
    cases hx; exact ho

/-- A slice that is read: its cells in the world. -/
def IsRow (k : IntKind) (w : World) (a : Option Addr) (len cap : Nat) (zs : List Int) : Prop :=
  (a = none ∧ len = 0 ∧ cap = 0 ∧ zs = []) ∨
  ∃ x, a = some x ∧ len ≤ cap ∧ cap ≤ maxLen ∧ zs.length = cap ∧ (∀ i, i < zs.length → w.cell? (x.add i) = some (.int k (zs.getD i 0))) ∧ ∀ n ∈ zs, (Lit.int k n).wf = true

theorem IsRow.wf {w : World} {a : Option Addr} {len cap : Nat} {zs : List Int} (h : IsRow .u64 w a len cap zs) : ∀ n ∈ zs.take len, 0 ≤ n ∧ n < 18446744073709551616 := by
  intro n hn
  have hm := List.mem_of_mem_take hn
  rcases h with ⟨_, _, _, rfl⟩ | ⟨x, _, _, _, _, _, hw⟩
  · cases hm
  · exact wf_u64 (hw n hm)
/-- One more object to read. -/
theorem Rel.push {μ : Mu} {H : MH} {w : World} (h : Rel μ H w) (hro : RO H) {l : Loc} {o : MO} (hrw : o.rw = false) (ho : ObjAt (bind1 μ H.length l) w l o) : Rel (bind1 μ H.length l) (H ++ [some o]) w := by
  have hun := h.unbound (Nat.le_refl H.length)
  have hle := bind1_le (l := l) hun
  have hold : ∀ q x, q ≠ H.length → hget (H ++ [some o]) q = some x → hget H q = some x := fun q x hq hx => by
    have hlt := hget_lt hx
    simp only [List.length_append, List.length_cons, List.length_nil] at hlt
    rwa [hget_append (by omega)] at hx
  have hnew : ∀ x, hget (H ++ [some o]) H.length = some x → x = o := fun x hx => by rw [hget_append_new] at hx; exact (Option.some.inj hx).symm
  refine ⟨fun q l' hq => ?_, fun q l' x hq hx => ?_, fun q r l1 l2 o1 o2 hq hr h1 h2 hrw' hne => ?_⟩
  · simp only [List.length_append, List.length_cons, List.length_nil]
    unfold bind1 at hq
    split at hq
    · omega
    · have := h.bound q l' hq; omega
  · by_cases hqn : q = H.length
    · subst hqn
      simp only [bind1, if_true, Option.some.injEq] at hq
      subst hq
      rw [hnew x hx]; exact ho
    · simp only [bind1, if_neg hqn] at hq
      exact (h.obj q l' x hq (hold q x hqn hx)).mono hle rfl
  · by_cases hqn : q = H.length
    · subst hqn
      rw [hnew o1 h1, hrw] at hrw'; cases hrw'
    · have := hro q o1 (hold q o1 hqn h1)
      rw [this] at hrw'; cases hrw'

/-- A slice of numbers, as an argument: none, or so many cells of an object. -/
def Sl (H : MH) (v : MV) (xs : List Int) : Prop := (xs = [] ∧ ∃ a, v = .lit (.slice a 0 0)) ∨
  ∃ p o c ob, v = .slice p o xs.length c 1 ∧ hget H p = some ob ∧ ∀ i, i < xs.length → ob.cells[o + i]? = some (.lit (.int .u64 (xs.getD i 0)))
theorem Sl.app {H : MH} {v : MV} {xs : List Int} (h : Sl H v xs) (L : MH) : Sl (H ++ L) v xs := by
  rcases h with ⟨h1, a, h2⟩ | ⟨p, o, c, ob, h1, h2, h3⟩
  · exact .inl ⟨h1, a, h2⟩
  · refine .inr ⟨p, o, c, ob, h1, ?_, h3⟩
    have := hget_lt h2
    unfold hget at h2 ⊢
    rw [List.getElem?_append_left this]; exact h2

theorem slArg {μ : Mu} {H : MH} {w : World} (hr : Rel μ H w) (hro : RO H) {a : Option Addr} {len cap : Nat} {zs : List Int} (hz : IsRow .u64 w a len cap zs) :
    ∃ μ' L v, Mle μ μ' ∧ Rel μ' (H ++ L) w ∧ RO (H ++ L) ∧ conc μ' v = .slice a len cap ∧ Ok μ' v ∧ Sl (H ++ L) v (zs.take len) ∧ ∀ p o n c z, v = .slice p o n c z → o = 0 := by
  rcases hz with ⟨rfl, rfl, rfl, rfl⟩ | ⟨x, rfl, hl, _, hlen, hcell, _⟩
  · exact ⟨μ, [], .lit (.slice none 0 0), Mle.refl μ, by simpa using hr, by simpa using hro, by simp [conc], by simp [Ok], .inl ⟨by simp, none, rfl⟩, fun _ _ _ _ _ h => by cases h⟩
  · rcases Nat.eq_zero_or_pos cap with h0 | h0
    · have h1 : len = 0 := by omega
      subst h1; subst h0
      exact ⟨μ, [], .lit (.slice (some x) 0 0), Mle.refl μ, by simpa using hr, by simpa using hro, by simp [conc], by simp [Ok], .inl ⟨by simp, some x, rfl⟩, fun _ _ _ _ _ h => by cases h⟩
    · have c0 := hcell 0 (by omega)
      have e0 : x.add 0 = x := by simp [Addr.add]
      rw [e0] at c0
      unfold World.cell? at c0
      obtain ⟨xb, xo, xs⟩ := x
      simp only at c0
      split at c0
      · rename_i cs t fz hb
        split at c0
        · cases c0
        · rename_i hsp
          simp only [Option.isSome_iff_ne_none, ne_eq, Decidable.not_not] at hsp
          subst hsp
          have hc : ∀ i, i < zs.length → cs[xo + i]? = some (.int .u64 (zs.getD i 0)) := by
            intro i hi
            have := hcell i hi
            rw [Addr.add_lit] at this
            simp only [World.cell?, hb] at this
            simpa using this
          have hsz : xo + cap ≤ cs.size := by
            have := hc (cap - 1) (by omega)
            have := (Array.getElem?_eq_some_iff.1 this).1
            omega
          let o : MO := ⟨zs.map fun n => .lit (.int .u64 n), false⟩
          have hun := hr.unbound (Nat.le_refl H.length)
          have hob : ObjAt (bind1 μ H.length ⟨xb, xo, cap⟩) w ⟨xb, xo, cap⟩ o := by
            refine ⟨cs, t, fz, hb, hsz, by simp [o, hlen], by simp [o], fun i v hv => ?_⟩
            simp only [o, List.getElem?_map, Option.map_eq_some_iff] at hv
            obtain ⟨n, hn, rfl⟩ := hv
            have hi := (List.getElem?_eq_some_iff.1 hn).1
            refine ⟨by simp [Ok], ?_⟩
            rw [hc i hi]
            simp [conc, List.getD_eq_getElem?_getD, hn]
          refine ⟨_, [some o], .slice H.length 0 len cap 1, bind1_le hun, hr.push hro rfl hob, hro.push rfl, ?_, ?_, .inr ⟨H.length, 0, cap, o, ?_, hget_append_new, fun i hi => ?_⟩, fun _ _ _ _ _ h => by cases h; rfl⟩
          · simp [conc, loc, bind1]
          · simp only [Ok]
            exact ⟨hl, ⟨xb, xo, cap⟩, by simp [bind1], by simp⟩
          · rw [List.length_take]
            congr 1
            omega
          · rw [List.length_take] at hi
            have hi2 : i < zs.length := by omega
            have hi3 : i < len := by omega
            simp [o, List.getElem?_map, List.getD_eq_getElem?_getD, List.getElem?_take, hi2, hi3]
      · cases c0
end Go.Proofs.YtcikcinkjbbnhaaDoor.M
