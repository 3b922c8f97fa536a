/- The small machine, fifteenth part: whole bodies, and functions. -/
import Derived.Test.YtcikcinkjbbnhaaDoorM14
import Derived.Scope
import Derived.KernelRfl
set_option linter.unusedSimpArgs false
set_option linter.unusedVariables false
namespace Go.Proofs.YtcikcinkjbbnhaaDoor.M
open Go

inductive ME where
  | normal
  | exit (id : Nat)
  | ret

def ME.ex : ME → Exit
  | .normal => .normal
  | .exit id => .exit id
  | .ret => .ret

abbrev MQ := ME → Env → MH → Prop

def thenQ (y : MQ → Env → MH → Prop) (Q : MQ) : MQ
  | .normal, ρ, H => y Q ρ H
  | e, ρ, H => Q e ρ H

def blockQ (id : Nat) (Q : MQ) : MQ
  | .exit i, ρ, H => if i = id then Q .normal ρ H else Q (.exit i) ρ H
  | e, ρ, H => Q e ρ H

def loopN (f : MQ → Env → MH → Prop) (Q : MQ) : Nat → Env → MH → Prop
  | 0, _, _ => False
  | n + 1, ρ, H => f (thenQ (fun _ ρ H => loopN f Q n ρ H) Q) ρ H

/-- An operation as the small walk sees it: its number, what must be held behind it, is it held itself, its slot, what it does, what it waits to hear. -/
structure Stp where
  i : Nat
  L : List Nat
  r : Bool
  d : Option Tmp
  op : Op
  g : Option (Option Tmp × Bool)

inductive HF where
  | load (t : TypeId) (x v : MV)
  | obj (p : Nat) (cs : List MV)

def HF.sem (P : Program) : HF → MH → Prop
  | .load t x v, H => loadV P t x H = some v
  | .obj p cs, H => hget H p = some ⟨cs, true⟩

def wantS (g : Option (Option Tmp × Bool)) (ρ : Env) : Bool := match g with
  | none => true
  | some (some d, w) => asB (ρ d) == some w
  | some (none, _) => false

def mkG (full : List Oper) (o : Oper) : Option (Option Tmp × Bool) := match o.guard with
  | none => none
  | some (j, w) => some ((full[j]?).bind (·.dst), w)

theorem want_mk {full : List Oper} {o : Oper} {ρ : Env} : wantS (mkG full o) ρ = wantedM full o ρ := by
  unfold mkG wantedM
  cases o.guard with
  | none => rfl
  | some jw =>
    obtain ⟨j, w⟩ := jw
    simp only
    cases (full[j]?).bind (·.dst) <;> rfl

def addr (o : Op) (ρ : Env) : TypeId × MV := match o with
  | .load t x => (t, ev ρ x)
  | _ => (0, .lit undef)

def hold (r : Bool) (x : Nat × HF) (F : List (Nat × HF)) : List (Nat × HF) := match r with
  | true => x :: F
  | false => F

def held (P : Program) (L : List Nat) (H : MH) : List (Nat × HF) → Prop
  | [] => True
  | x :: F => (x.1 ∈ L → x.2.sem P H) ∧ held P L H F

theorem held_iff {P : Program} {L : List Nat} {H : MH} : ∀ {F : List (Nat × HF)}, held P L H F → ∀ x ∈ F, x.1 ∈ L → x.2.sem P H
  | [], _, x, hx, _ => by cases hx
  | y :: F, h, x, hx, hl => by
    rcases List.mem_cons.1 hx with rfl | hx
    · exact h.1 hl
    · exact held_iff h.2 x hx hl

def rM (P : Program) : List Stp → List (Nat × HF) → Env → MH → (Env → MH → Prop) → Prop
  | [], F, ρ, H, K => K ρ H
  | s :: rest, F, ρ, H, K =>
    if wantS s.g ρ = true then
      match cls s.op with
      | .pure => (pureV P s.op ρ).isSome = true ∧ rM P rest F (put ρ s.d ((pureV P s.op ρ).getD default)) H K
      | .load => (loadO P s.op ρ H).isSome = true ∧ rM P rest (hold s.r (s.i, .load (addr s.op ρ).1 (addr s.op ρ).2 ((loadO P s.op ρ H).getD default)) F) (put ρ s.d ((loadO P s.op ρ H).getD default)) H K
      | .alloc => (allocV P s.op ρ).isSome = true ∧ rM P rest (hold s.r (s.i, .obj H.length ((allocV P s.op ρ).getD default).1) F) (put ρ s.d (((allocV P s.op ρ).getD default).2 H.length)) (H ++ [some ⟨((allocV P s.op ρ).getD default).1, true⟩]) K
      | .eff => effM P s.op ρ H fun v H' => held P s.L H' F ∧ rM P rest F (put ρ s.d v) H' K
    else rM P rest F (put ρ s.d (.lit undef)) H K

def stps (full : List Oper) : List Oper → List Stp
  | [] => []
  | o :: l => ⟨0, [], false, o.dst, o.op, mkG full o⟩ :: stps full l

def vstps (ops : Array Oper) (R : List Nat) : List (Nat × List Nat) → List Stp
  | [] => []
  | (i, L) :: l => ⟨i, L, R.contains i, (ops.getD i default).dst, (ops.getD i default).op, mkG ops.toList (ops.getD i default)⟩ :: vstps ops R l

theorem isSome_getD {α : Type} {x : Option α} {d : α} (h : x.isSome = true) : x = some (x.getD d) := by
  cases x with
  | none => cases h
  | some a => rfl

theorem rM_mops {P : Program} {full : List Oper} : ∀ (l : List Oper) (F : List (Nat × HF)) (ρ : Env) (H : MH) (K : Env → MH → Prop), rM P (stps full l) F ρ H K → mops P full l ρ H K
  | [], _, _, _, _, h => h
  | o :: l, F, ρ, H, K, h => by
    simp only [stps, rM, want_mk] at h
    simp only [mops]
    split at h
    · rename_i hw
      rw [if_pos hw]
      unfold stepM
      split at h
      · rename_i hc; rw [hc]; exact ⟨_, isSome_getD h.1, rM_mops l _ _ _ _ h.2⟩
      · rename_i hc; rw [hc]; exact ⟨_, isSome_getD h.1, rM_mops l _ _ _ _ h.2⟩
      · rename_i hc
        rw [hc]
        exact ⟨_, _, isSome_getD (d := default) h.1, rM_mops l _ _ _ _ h.2⟩
      · rename_i hc
        rw [hc]
        exact effM_mono (fun v H' hk => rM_mops l _ _ _ _ hk.2) h
    · rename_i hw
      rw [if_neg hw]
      exact rM_mops l _ _ _ _ h

theorem rM_vM {P : Program} {ops : Array Oper} {R : List Nat} : ∀ (l : List (Nat × List Nat)) (F : List (Nat × HF)) (G : List (Nat × (MH → Prop))) (ρ : Env) (H : MH) (K : Env → MH → Prop),
    (∀ x ∈ l, x.1 < ops.size) → (∀ x ∈ l, ∀ j ∈ x.2, j ∈ R) → (∀ x ∈ G, x.1 ∈ R → ∃ y ∈ F, y.1 = x.1 ∧ ∀ H, y.2.sem P H → x.2 H) → rM P (vstps ops R l) F ρ H K → vM P ops l G ρ H K
  | [], _, _, _, _, _, _, _, _, h => h
  | (i, L) :: l, F, G, ρ, H, K, hb, hR, hG, h => by
    have hi : i < ops.size := hb (i, L) (List.mem_cons_self ..)
    have ho : ops[i]? = some (ops.getD i default) := by simp [Array.getD_eq_getD_getElem?, hi]
    have hb' := fun x hx => hb x (List.mem_cons_of_mem _ hx)
    have hR' := fun x hx => hR x (List.mem_cons_of_mem _ hx)
    simp only [vstps, rM, want_mk] at h
    obtain ⟨o, hoeq⟩ : ∃ o, ops.getD i default = o := ⟨_, rfl⟩
    simp only [hoeq] at h ho
    simp only [vM, ho]
    have hcons : ∀ (x : Nat × HF) (y : Nat × (MH → Prop)), y.1 = i → (x.1 = i) → (∀ H, x.2.sem P H → y.2 H) → ∀ z ∈ y :: G, z.1 ∈ R → ∃ u ∈ hold (R.contains i) x F, u.1 = z.1 ∧ ∀ H, u.2.sem P H → z.2 H := by
      intro x y hy hx hxy z hz hzR
      rcases List.mem_cons.1 hz with rfl | hz
      · have : R.contains i = true := by rw [hy] at hzR; simpa using hzR
        rw [this]
        exact ⟨x, List.mem_cons_self .., by rw [hx, hy], hxy⟩
      · obtain ⟨u, hu, h1, h2⟩ := hG z hz hzR
        refine ⟨u, ?_, h1, h2⟩
        unfold hold
        split
        · exact List.mem_cons_of_mem _ hu
        · exact hu
    split at h
    · rename_i hw
      rw [if_pos hw]
      split at h
      · rename_i hc; rw [hc]; exact ⟨_, isSome_getD h.1, rM_vM l _ G _ _ _ hb' hR' hG h.2⟩
      · rename_i hc
        rw [hc]
        refine ⟨_, isSome_getD h.1, rM_vM l _ _ _ _ _ hb' hR' (hcons _ _ rfl rfl fun H' hs => ?_) h.2⟩
        have h1 := h.1
        unfold loadO at h1 hs ⊢
        revert hs h1
        cases hop : o.op <;> first | (simp [HF.sem, addr]; done) | (simp only [HF.sem, addr]; exact fun h _ => h)
      · rename_i hc
        rw [hc]
        obtain ⟨⟨cs, f⟩, hal⟩ := Option.isSome_iff_exists.1 h.1
        rw [hal] at h
        exact ⟨cs, f, hal, rM_vM l _ _ _ _ _ hb' hR' (hcons (i, .obj H.length cs) _ rfl rfl fun H' hs => hs) h.2⟩
      · rename_i hc
        rw [hc]
        refine effM_mono (fun v H' hk => ⟨fun x hx hl => ?_, rM_vM l _ G _ _ _ hb' hR' hG hk.2⟩) h
        obtain ⟨y, hy, h1, h2⟩ := hG x hx (hR (i, L) (List.mem_cons_self ..) _ hl)
        exact h2 H' (held_iff hk.1 y hy (by rw [h1]; exact hl))
    · rename_i hw
      rw [if_neg hw]
      exact rM_vM l _ G _ _ _ hb' hR' hG h

/-- The order pl may be walked, what is to be held is among R. -/
def vokR (ops : Array Oper) (pl : List (Nat × List Nat)) (R : List Nat) : Bool := vok ops pl && pl.all (fun x => x.1 < ops.size && x.2.all (R.contains ·))

def mwp (P : Program) : Code → MQ → Env → MH → Prop
  | .skip, Q, ρ, H => Q .normal ρ H
  | .region _ ops false, Q, ρ, H => rM P (stps ops.toList ops.toList) [] ρ H (Q .normal)
  | .region _ ops true, Q, ρ, H => ∃ pl R, vokR ops pl R = true ∧ rM P (vstps ops R pl) [] ρ H (Q .normal)
  | .seq x y, Q, ρ, H => mwp P x (thenQ (mwp P y) Q) ρ H
  | .cond c x y, Q, ρ, H => ∃ b, asB (ev ρ c) = some b ∧ (b = true → mwp P x Q ρ H) ∧ (b = false → mwp P y Q ρ H)
  | .block id x, Q, ρ, H => mwp P x (blockQ id Q) ρ H
  | .loop x, Q, ρ, H => ∃ n, loopN (mwp P x) Q n ρ H
  | .exit id, Q, ρ, H => Q (.exit id) ρ H
  | .ret, Q, ρ, H => Q .ret ρ H
  | .scope x, Q, ρ, H => mwp P x Q ρ H
  | .label _, Q, ρ, H => Q .normal ρ H
  | _, _, _, _ => False

def codeOk (N : Nat) : Code → Bool
  | .region _ ops _ => opsOk N ops.toList
  | .seq x y => codeOk N x && codeOk N y
  | .cond _ x y => codeOk N x && codeOk N y
  | .block _ x => codeOk N x
  | .loop x => codeOk N x
  | .scope x => codeOk N x
  | _ => true

section
variable {P : Program} {N : Nat} {μ0 : Mu} {H0 : MH} {w0 : World}

/-- What the small walk's end is, for the real one. -/
def R (N : Nat) (μ0 : Mu) (H0 : MH) (w0 : World) (Q : MQ) : Exit → Act → World → Prop := fun e a w => ∃ m ρ H μ, ME.ex m = e ∧ Q m ρ H ∧ St N μ0 H0 w0 ρ H μ a w

theorem mwp_sound (hb0 : TabIn μ0 H0 w0) (hm : P.follows .mixedOrders = true) : ∀ (c : Code) (Q : MQ) (ρ : Env) (H : MH) (μ : Mu) (a : Act) (w : World), codeOk N c = true → mwp P c Q ρ H → St N μ0 H0 w0 ρ H μ a w → c.wp P (R N μ0 H0 w0 Q) a w
  | .skip, Q, ρ, H, μ, a, w, _, h, s => wp_skip ⟨.normal, ρ, H, μ, rfl, h, s⟩
  | .region id ops false, Q, ρ, H, μ, a, w, hok, h, s => by
    refine wp_region ?_
    have := mops_sound (P := P) (full := ops) (N := N) (μ0 := μ0) (H0 := H0) (w0 := w0) hb0 (K := Q .normal) (Q := R N μ0 H0 w0 Q) (fun ρ H μ a w hk hs => ⟨.normal, ρ, H, μ, rfl, hk, hs⟩) ops.size 0 ρ H μ a w (by omega) (by simpa [codeOk] using hok) (rM_mops _ _ _ _ _ h) s
    rwa [← List.range_eq_range'] at this
  | .region id ops true, Q, ρ, H, μ, a, w, hok, h, s => by
    obtain ⟨pl, R0, hvk, hv⟩ := by simpa only [mwp] using h
    simp only [vokR, Bool.and_eq_true] at hvk
    have hv := rM_vM pl [] [] ρ H _ (fun x hx => by have := List.all_eq_true.1 hvk.2 x hx; simp only [Bool.and_eq_true, decide_eq_true_eq] at this; exact this.1)
      (fun x hx j hj => by have := List.all_eq_true.1 hvk.2 x hx; simp only [Bool.and_eq_true] at this; simpa using List.all_eq_true.1 this.2 j hj) (fun x hx => by cases hx) hv
    exact draw_sound hb0 hm hvk.1 hok (fun ρ H μ a w hk hs => ⟨.normal, ρ, H, μ, rfl, hk, hs⟩) hv s
  | .seq x y, Q, ρ, H, μ, a, w, hok, h, s => by
    simp only [codeOk, Bool.and_eq_true] at hok
    simp only [mwp] at h
    refine wp_seq (wp_mono (mwp_sound hb0 hm x _ ρ H μ a w hok.1 h s) ?_)
    rintro e a' w' ⟨m, ρ', H', μ', rfl, hq, hs⟩
    cases m with
    | normal => exact mwp_sound hb0 hm y Q ρ' H' μ' a' w' hok.2 hq hs
    | exit id => exact ⟨.exit id, ρ', H', μ', rfl, hq, hs⟩
    | ret => exact ⟨.ret, ρ', H', μ', rfl, hq, hs⟩
  | .cond c x y, Q, ρ, H, μ, a, w, hok, h, s => by
    simp only [codeOk, Bool.and_eq_true] at hok
    obtain ⟨b, hb, ht, hf⟩ := by simpa only [mwp] using h
    have hc : a.eval c = .bool b := by rw [← (s.tm.ev c).1]; exact asB_conc.1 hb
    refine wp_cond_split hc (fun hbt => mwp_sound hb0 hm x Q ρ H μ a w hok.1 (ht hbt) s) (fun hbf => mwp_sound hb0 hm y Q ρ H μ a w hok.2 (hf hbf) s)
  | .block id x, Q, ρ, H, μ, a, w, hok, h, s => by
    simp only [mwp] at h
    refine wp_block (wp_mono (mwp_sound hb0 hm x _ ρ H μ a w hok h s) ?_)
    rintro e a' w' ⟨m, ρ', H', μ', rfl, hq, hs⟩
    cases m with
    | normal => exact ⟨.normal, ρ', H', μ', rfl, hq, hs⟩
    | exit i =>
      simp only [blockQ] at hq
      simp only [ME.ex, Exit.inBlock]
      split at hq
      · rename_i he; rw [if_pos he]; exact ⟨.normal, ρ', H', μ', rfl, hq, hs⟩
      · rename_i he; rw [if_neg he]; exact ⟨.exit i, ρ', H', μ', rfl, hq, hs⟩
    | ret => exact ⟨.ret, ρ', H', μ', rfl, hq, hs⟩
  | .loop x, Q, ρ, H, μ, a, w, hok, h, s => by
    obtain ⟨n, hn⟩ := by simpa only [mwp] using h
    refine wp_loop_rounds n ?_
    have key : ∀ (n : Nat) (ρ : Env) (H : MH) (μ : Mu) (a : Act) (w : World), loopN (mwp P x) Q n ρ H → St N μ0 H0 w0 ρ H μ a w → Code.rounds P x (R N μ0 H0 w0 Q) n a w := by
      intro n
      induction n with
      | zero => intro ρ H μ a w h; exact h.elim
      | succ n ih =>
        intro ρ H μ a w h s
        rw [rounds_succ]
        refine wp_mono (mwp_sound hb0 hm x _ ρ H μ a w hok h s) ?_
        rintro e a' w' ⟨m, ρ', H', μ', rfl, hq, hs⟩
        cases m with
        | normal => exact ih ρ' H' μ' a' w' hq hs
        | exit id => exact ⟨.exit id, ρ', H', μ', rfl, hq, hs⟩
        | ret => exact ⟨.ret, ρ', H', μ', rfl, hq, hs⟩
    exact key n ρ H μ a w hn s
  | .exit id, Q, ρ, H, μ, a, w, _, h, s => wp_exit ⟨.exit id, ρ, H, μ, rfl, h, s⟩
  | .ret, Q, ρ, H, μ, a, w, _, h, s => wp_ret ⟨.ret, ρ, H, μ, rfl, h, s⟩
  | .rangeFunc .., _, _, _, _, _, _, _, h, _ => h.elim
  | .scope x, Q, ρ, H, μ, a, w, hok, h, s => by
    refine wp_scope_straight (wp_mono (mwp_sound hb0 hm x Q ρ H μ a w hok h s) ?_)
    rintro e a' w' ⟨m, ρ', H', μ', rfl, hq, hs⟩
    cases m with
    | normal => exact ⟨.normal, ρ', H', μ', rfl, hq, hs⟩
    | exit id => exact ⟨.exit id, ρ', H', μ', rfl, hq, hs⟩
    | ret => exact ⟨.ret, ρ', H', μ', rfl, hq, hs⟩
  | .label _, Q, ρ, H, μ, a, w, _, h, s => wp_label ⟨.normal, ρ, H, μ, rfl, h, s⟩
  | .goto _, _, _, _, _, _, _, _, h, _ => h.elim
  | .refuse _, _, _, _, _, _, _, _, h, _ => h.elim
end

/-! ### Results -/

def resV (P : Program) (ρ : Env) (H : MH) : ResultVar → Option MV
  | .tmp t => some (ρ t)
  | .cell a t => loadV P t (ρ a) H

def ress (P : Program) (ρ : Env) (H : MH) : List ResultVar → Option (List MV)
  | [] => some []
  | r :: rs => match resV P ρ H r, ress P ρ H rs with
    | some v, some vs => some (v :: vs)
    | _, _ => none

def tupM : List MV → MV
  | [v] => v
  | vs => .tup vs

theorem loadVar_sound {P : Program} {t : TypeId} {x : MV} {H : MH} {v : MV} (h : loadV P t x H = some v) {μ : Mu} {w : World} (hx : Ok μ x) (hr : Rel μ H w) (hb : TabIn μ H w) :
    (do loadVar t (← asAddr (conc μ x)) : Sem Value).run P w = .ok (conc μ v) w ∧ Ok μ v := by
  have ht : Tm μ (fun t => if t = 0 then x else .lit undef) { tmps := #[conc μ x], defers := [] } := by
    refine ⟨fun t => ?_, fun t => ?_⟩
    · by_cases h0 : t = 0
      · subst h0; simp
      · simp [h0, conc, Array.getD_eq_getD_getElem?, Array.getElem?_eq_none]
    · split
      · exact hx
      · simp [Ok]
  have := load_sound (x := .tmp 0) (ρ := fun t => if t = 0 then x else .lit undef) (by simpa [ev] using h) ht hr hb ⟨none, .load t (.tmp 0), 0, "", #[], none⟩ rfl
  refine ⟨?_, this.2⟩
  have hrun := this.1
  unfold loadV at h
  split at h
  · rename_i p o
    obtain ⟨l, hl⟩ := by simpa [Ok] using hx
    simp [execOp, Act.eval, Instr.loadAt, conc, loc_some hl, Instr.sureAddr, asAddr] at hrun ⊢
    cases hq : (loadVar t ⟨l.b, l.off + o, none⟩).run P w with
    | ok a w' => rw [hq] at hrun; simp at hrun; simp [hrun]
    | halt e w' => rw [hq] at hrun; simp at hrun
  · rename_i b o
    simp [execOp, Act.eval, Instr.loadAt, conc, Instr.sureAddr, asAddr] at hrun ⊢
    cases hq : (loadVar t ⟨b, o, none⟩).run P w with
    | ok a w' => rw [hq] at hrun; simp at hrun; simp [hrun]
    | halt e w' => rw [hq] at hrun; simp at hrun
  · cases h

def resS (tmps : Array Value) : ResultVar → Sem Value
  | .tmp t => pure (tmps.getD t undef)
  | .cell a t => do loadVar t (← asAddr (tmps.getD a undef))

theorem results_eq (fn : Func) (tmps : Array Value) : results fn tmps = (do let vs ← fn.results.mapM (resS tmps); pure (if h : vs.size = 1 then vs[0] else .tuple vs)) := by
  unfold results
  congr 1

theorem ress_sound {P : Program} {ρ : Env} {H : MH} {μ : Mu} {a : Act} {w : World} (ht : Tm μ ρ a) (hr : Rel μ H w) (hb : TabIn μ H w) : ∀ (rs : List ResultVar) (vs : List MV), ress P ρ H rs = some vs →
    (rs.mapM (resS a.tmps)).run P w = .ok (concs μ vs) w ∧ Oks μ vs
  | [], vs, h => by
    simp only [ress, Option.some.injEq] at h
    subst h
    simp [concs, Oks]
  | r :: rs, vs, h => by
    simp only [ress] at h
    split at h
    · rename_i v vs' hv hvs
      cases h
      have ih := ress_sound ht hr hb rs vs' hvs
      have h1 : (resS a.tmps r).run P w = .ok (conc μ v) w ∧ Ok μ v := by
        cases r with
        | tmp t =>
          simp only [resV, Option.some.injEq] at hv
          subst hv
          exact ⟨by simp [resS, ht.val t], ht.ok t⟩
        | cell x t =>
          have := loadVar_sound hv (ht.ok x) hr hb
          rw [ht.val x] at this
          exact this
      refine ⟨?_, by simp [Oks, h1.2, ih.2]⟩
      rw [List.mapM_cons]
      simp only [Sem.run_bind, h1.1, ih.1, Result.andThen_ok, Sem.run_pure, concs]
    · cases h

theorem results_sound {P : Program} {fn : Func} {ρ : Env} {H : MH} {μ : Mu} {a : Act} {w : World} (ht : Tm μ ρ a) (hr : Rel μ H w) (hb : TabIn μ H w) {vs : List MV} (h : ress P ρ H fn.results.toList = some vs) :
    (results fn a.tmps).run P w = .ok (conc μ (tupM vs)) w ∧ Ok μ (tupM vs) := by
  have := ress_sound ht hr hb fn.results.toList vs h
  refine ⟨?_, ?_⟩
  · rw [results_eq, Array.mapM_eq_mapM_toList]
    simp only [Sem.run_bind, Sem.run_map]
    have h1 := this.1
    rw [h1]
    simp only [Result.andThen_ok, Sem.run_pure]
    congr 1
    match vs with
    | [] => simp [concs, tupM, conc]
    | [v] => simp [concs, tupM]
    | v :: u :: vs => simp [concs, tupM, conc]
  · match vs, this.2 with
    | [], _ => simp [tupM, Ok, Oks]
    | [v], h => simp only [Oks] at h; exact h.1
    | v :: u :: vs, h => simpa [tupM, Ok] using h

def args0 (args : List MV) : Env := fun t => args.getD t (.lit undef)

/-- What a function's body must come to. -/
def retQ (P : Program) (rs : List ResultVar) (K : MV → MH → Prop) : MQ
  | .normal, ρ, H | .ret, ρ, H => ∃ vs, ress P ρ H rs = some vs ∧ K (tupM vs) H
  | _, _, _ => False

theorem spec_of_body {P : Program} (hm : P.follows .mixedOrders = true) {f : FuncId} {fn : Func} {c : Code} (hf : P.funcs[f]? = some fn) (hb : fn.body = some c) (hname : fn.name ≠ "runtime.NumGoroutine") {args : List MV}
    (hn : args.length ≤ fn.ntmps) (hok : codeOk fn.ntmps c = true) {H : MH} {K : MV → MH → Prop} (h : mwp P c (retQ P fn.results.toList K) (args0 args) H) : Spec P f args H K := by
  intro μ w hr hb0 ha
  have hcall : (callFunc f (concs μ args).toArray).run P w = .ok (.enter f (concs μ args).toArray) w := by
    simp [callFunc, hf, hname, hb]
  unfold Does
  rw [hcall]
  simp only
  have hlen : (concs μ args).length = args.length := by simp [concs_map]
  refine calls_of_wp hf hb (wp_mono (mwp_sound (N := fn.ntmps) (μ0 := μ) (H0 := H) (w0 := w) hb0 hm c _ (args0 args) H μ _ w hok h ⟨⟨fun t => ?_, fun t => ?_⟩, ?_, rfl, hr, Ext.refl _ _ _⟩) ?_)
  · simp only [args0, List.getD_eq_getElem?_getD, Array.getD_eq_getD_getElem?]
    rcases Nat.lt_or_ge t args.length with hlt | hge
    · rw [List.getElem?_eq_getElem hlt, Array.getElem?_append_left (by simpa [hlen] using hlt)]
      simp [concs_map, hlt]
    · rw [List.getElem?_eq_none hge, Array.getElem?_append_right (by simpa [hlen] using hge)]
      simp only [Option.getD_none, conc, Array.getElem?_replicate]
      split <;> rfl
  · simp only [args0, List.getD_eq_getElem?_getD]
    cases hx : args[t]? with
    | none => simp [Ok]
    | some v => exact (oks_iff μ args).1 ha v (List.mem_of_getElem? hx)
  · simp [hlen]; omega
  · rintro e a' w' ⟨m, ρ', H', μ', rfl, hq, hs⟩
    cases m with
    | normal =>
      obtain ⟨vs, hvs, hk⟩ := hq
      have := results_sound (fn := fn) hs.tm hs.rel (hb0.ext hs.ext) hvs
      exact ⟨hs.df, _, this.1, tupM vs, H', μ', hk, rfl, this.2, hs.rel, hs.ext⟩
    | ret =>
      obtain ⟨vs, hvs, hk⟩ := hq
      have := results_sound (fn := fn) hs.tm hs.rel (hb0.ext hs.ext) hvs
      exact ⟨hs.df, _, this.1, tupM vs, H', μ', hk, rfl, this.2, hs.rel, hs.ext⟩
    | exit id => exact hq.elim

end Go.Proofs.YtcikcinkjbbnhaaDoor.M

/- The small machine, sixteenth part: the walk as a list of what is still to do, for rewriting. -/
set_option linter.unusedSimpArgs false
set_option linter.unusedVariables false
namespace Go.Proofs.YtcikcinkjbbnhaaDoor.M
open Go

inductive It where
  | code (c : Code)
  | run (l : List Stp) (F : List (Nat × HF))
  | blk (id : Nat)
  | back (J : Env → MH → Prop)
  | rnd (n : Nat) (c : Code)

def WQ (P : Program) (Q : MQ) : List It → MQ
  | [] => Q
  | .code c :: k => fun m ρ H => match m with
    | .normal => mwp P c (WQ P Q k) ρ H
    | m => WQ P Q k m ρ H
  | .run l F :: k => fun m ρ H => match m with
    | .normal => rM P l F ρ H (WQ P Q k .normal)
    | m => WQ P Q k m ρ H
  | .blk id :: k => blockQ id (WQ P Q k)
  | .back J :: k => fun m ρ H => match m with
    | .normal => J ρ H
    | m => WQ P Q k m ρ H
  | .rnd n c :: k => fun m ρ H => match m with
    | .normal => loopN (mwp P c) (WQ P Q k) n ρ H
    | m => WQ P Q k m ρ H

/-- The walk of what is to do comes to Q. -/
def W (P : Program) (Q : MQ) (k : List It) (ρ : Env) (H : MH) : Prop := WQ P Q k .normal ρ H
/-- The walk leaves block id. -/
def WX (P : Program) (Q : MQ) (id : Nat) (k : List It) (ρ : Env) (H : MH) : Prop := WQ P Q k (.exit id) ρ H

/-- A call. -/
def CallK (P : Program) (Q : MQ) (f : MV) (args : List MV) (d : Option Tmp) (L : List Nat) (l : List Stp) (F : List (Nat × HF)) (k : List It) (ρ : Env) (H : MH) : Prop :=
  match f with
  | .fn (.func g) a b => Spec P g (a ++ args ++ b) H fun v H' => held P L H' F ∧ W P Q (.run l F :: k) (put ρ d v) H'
  | _ => False

section
variable {P : Program} {Q : MQ} {k : List It} {ρ : Env} {H : MH}

theorem W_nil : W P Q [] ρ H = Q .normal ρ H := _root_.id rfl
theorem W_skip : W P Q (.code .skip :: k) ρ H = W P Q k ρ H := _root_.id rfl
theorem W_seq {x y : Code} : W P Q (.code (.seq x y) :: k) ρ H = W P Q (.code x :: .code y :: k) ρ H := by
  show mwp P x (thenQ (mwp P y) (WQ P Q k)) ρ H = mwp P x (WQ P Q (.code y :: k)) ρ H
  have : thenQ (mwp P y) (WQ P Q k) = WQ P Q (.code y :: k) := by funext m ρ H; cases m <;> rfl
  rw [this]
theorem W_scope {x : Code} : W P Q (.code (.scope x) :: k) ρ H = W P Q (.code x :: k) ρ H := _root_.id rfl
theorem W_label {id : Nat} : W P Q (.code (.label id) :: k) ρ H = W P Q k ρ H := _root_.id rfl
theorem W_block {id : Nat} {x : Code} : W P Q (.code (.block id x) :: k) ρ H = W P Q (.code x :: .blk id :: k) ρ H := _root_.id rfl
theorem W_blk {id : Nat} : W P Q (.blk id :: k) ρ H = W P Q k ρ H := _root_.id rfl
theorem W_back {J : Env → MH → Prop} : W P Q (.back J :: k) ρ H = J ρ H := _root_.id rfl
theorem W_exit {id : Nat} : W P Q (.code (.exit id) :: k) ρ H = WX P Q id k ρ H := _root_.id rfl
theorem WX_code {id : Nat} {c : Code} : WX P Q id (.code c :: k) ρ H = WX P Q id k ρ H := _root_.id rfl
theorem WX_run {id : Nat} {l F} : WX P Q id (.run l F :: k) ρ H = WX P Q id k ρ H := _root_.id rfl
theorem WX_back {id : Nat} {J} : WX P Q id (.back J :: k) ρ H = WX P Q id k ρ H := _root_.id rfl
theorem WX_rnd {id n : Nat} {c} : WX P Q id (.rnd n c :: k) ρ H = WX P Q id k ρ H := _root_.id rfl
theorem W_rnd {n : Nat} {c : Code} : W P Q (.rnd (n + 1) c :: k) ρ H = W P Q (.code c :: .rnd n c :: k) ρ H := by
  show mwp P c (thenQ (fun _ ρ H => loopN (mwp P c) (WQ P Q k) n ρ H) (WQ P Q k)) ρ H = mwp P c (WQ P Q (.rnd n c :: k)) ρ H
  have : thenQ (fun _ ρ H => loopN (mwp P c) (WQ P Q k) n ρ H) (WQ P Q k) = WQ P Q (.rnd n c :: k) := by funext m ρ H; cases m <;> rfl
  rw [this]
/-- A loop of at most n rounds. -/
theorem W_loop_n (n : Nat) {c : Code} (h : W P Q (.rnd n c :: k) ρ H) : W P Q (.code (.loop c) :: k) ρ H := ⟨n, h⟩
theorem WX_blk {id j : Nat} : WX P Q id (.blk j :: k) ρ H = if id = j then W P Q k ρ H else WX P Q id k ρ H := _root_.id rfl
theorem W_ret : W P Q (.code .ret :: k) ρ H = Q .ret ρ H := by
  show WQ P Q k .ret ρ H = Q .ret ρ H
  induction k with
  | nil => rfl
  | cons x k ih => cases x <;> exact ih
theorem W_cond {c : Operand} {x y : Code} : W P Q (.code (.cond c x y) :: k) ρ H = ((asB (ev ρ c)).isSome = true ∧ (asB (ev ρ c) = some true → W P Q (.code x :: k) ρ H) ∧ (asB (ev ρ c) = some false → W P Q (.code y :: k) ρ H)) := by
  show (∃ b, asB (ev ρ c) = some b ∧ (b = true → mwp P x (WQ P Q k) ρ H) ∧ (b = false → mwp P y (WQ P Q k) ρ H)) = _
  cases asB (ev ρ c) with
  | none => simp
  | some b => cases b <;> simp [W, WQ]
theorem W_region {id : Nat} {ops : Array Oper} : W P Q (.code (.region id ops false) :: k) ρ H = W P Q (.run (stps ops.toList ops.toList) [] :: k) ρ H := _root_.id rfl
theorem W_draw {id : Nat} {ops : Array Oper} (pl : List (Nat × List Nat)) (R : List Nat) (hv : vokR ops pl R = true) (h : W P Q (.run (vstps ops R pl) [] :: k) ρ H) : W P Q (.code (.region id ops true) :: k) ρ H := ⟨pl, R, hv, h⟩
theorem W_done {F} : W P Q (.run [] F :: k) ρ H = W P Q k ρ H := _root_.id rfl

/-- One operation that may be carried out or not: one that writes or calls, or makes memory. -/
theorem W_guard {i L r d op g b l F} : W P Q (.run (⟨i, L, r, d, op, some (g, b)⟩ :: l) F :: k) ρ H =
    if wantS (some (g, b)) ρ = true then W P Q (.run (⟨i, L, r, d, op, none⟩ :: l) F :: k) ρ H else W P Q (.run l F :: k) (put ρ d (.lit undef)) H := by
  show rM P _ F ρ H _ = _
  simp only [rM]
  split <;> rfl
theorem W_guard_eff {i L r d op g b l F} (hc : cls op = .eff) : W P Q (.run (⟨i, L, r, d, op, some (g, b)⟩ :: l) F :: k) ρ H =
    if wantS (some (g, b)) ρ = true then W P Q (.run (⟨i, L, r, d, op, none⟩ :: l) F :: k) ρ H else W P Q (.run l F :: k) (put ρ d (.lit undef)) H := W_guard
theorem W_guard_alloc {i L r d op g b l F} (hc : cls op = .alloc) : W P Q (.run (⟨i, L, r, d, op, some (g, b)⟩ :: l) F :: k) ρ H =
    if wantS (some (g, b)) ρ = true then W P Q (.run (⟨i, L, r, d, op, none⟩ :: l) F :: k) ρ H else W P Q (.run l F :: k) (put ρ d (.lit undef)) H := W_guard
theorem W_guard_c {i L r d op g b l F} : W P Q (.run (⟨i, L, r, d, op, some (g, b)⟩ :: l) F :: k) ρ H =
    ((wantS (some (g, b)) ρ = true → W P Q (.run (⟨i, L, r, d, op, none⟩ :: l) F :: k) ρ H) ∧ (¬ wantS (some (g, b)) ρ = true → W P Q (.run l F :: k) (put ρ d (.lit undef)) H)) := by
  rw [W_guard]
  split <;> simp_all
theorem W_cond_c {c : Operand} {x y : Code} : W P Q (.code (.cond c x y) :: k) ρ H = ((asB (ev ρ c)).isSome = true ∧ (asB (ev ρ c) = some true → W P Q (.code x :: k) ρ H) ∧ (¬ asB (ev ρ c) = some true → W P Q (.code y :: k) ρ H)) := by
  rw [W_cond]
  cases asB (ev ρ c) with
  | none => simp
  | some b => cases b <;> simp
theorem want_iff {e : Tmp} {b : Bool} {ρ : Env} : wantS (some (some e, b)) ρ = true ↔ asB (ρ e) = some b := by
  simp [wantS]
theorem W_guard_t {i L r d op e b l F} (h : asB (ρ e) = some b) : W P Q (.run (⟨i, L, r, d, op, some (some e, b)⟩ :: l) F :: k) ρ H = W P Q (.run (⟨i, L, r, d, op, none⟩ :: l) F :: k) ρ H := by
  rw [W_guard, if_pos (want_iff.2 h)]
theorem W_guard_f {i L r d op e b l F} (h : asB (ρ e) = some (!b)) : W P Q (.run (⟨i, L, r, d, op, some (some e, b)⟩ :: l) F :: k) ρ H = W P Q (.run l F :: k) (put ρ d (.lit undef)) H := by
  rw [W_guard, if_neg (by rw [want_iff, h]; cases b <;> simp)]
theorem W_guard_n {i L r d op e b l F} (h : asB (ρ e) = none) : W P Q (.run (⟨i, L, r, d, op, some (some e, b)⟩ :: l) F :: k) ρ H = W P Q (.run l F :: k) (put ρ d (.lit undef)) H := by
  rw [W_guard, if_neg (by rw [want_iff, h]; simp)]
theorem W_cond_t {c : Operand} {x y : Code} (h : asB (ev ρ c) = some true) : W P Q (.code (.cond c x y) :: k) ρ H = W P Q (.code x :: k) ρ H := by
  rw [W_cond, h]; simp
theorem W_cond_f {c : Operand} {x y : Code} (h : asB (ev ρ c) = some false) : W P Q (.code (.cond c x y) :: k) ρ H = W P Q (.code y :: k) ρ H := by
  rw [W_cond, h]; simp
/-- The walk is parted by hand. -/
theorem split_guard {i L r d op e b l F} {p : Prop} (hp : (asB (ρ e) = some b) = p) (h1 : p → W P Q (.run (⟨i, L, r, d, op, none⟩ :: l) F :: k) ρ H) (h2 : ¬ p → W P Q (.run l F :: k) (put ρ d (.lit undef)) H) :
    W P Q (.run (⟨i, L, r, d, op, some (some e, b)⟩ :: l) F :: k) ρ H := by
  rw [W_guard]
  split
  · rename_i hw; rw [want_iff, hp] at hw; exact h1 hw
  · rename_i hw; rw [want_iff, hp] at hw; exact h2 hw
theorem split_cond {c : Operand} {x y : Code} {b : Bool} {p : Prop} (hb : asB (ev ρ c) = some b) (hp : (b = true) = p) (h1 : p → W P Q (.code x :: k) ρ H) (h2 : ¬ p → W P Q (.code y :: k) ρ H) : W P Q (.code (.cond c x y) :: k) ρ H := by
  rw [W_cond, hb]
  refine ⟨rfl, fun h => h1 (hp ▸ Option.some.inj h), fun h => h2 fun hp' => ?_⟩
  have := hp ▸ hp'
  rw [this] at h
  cases h
/-- The others: the walk isn't parted. -/
theorem W_guard_pure {i L r d op g b l F} (hc : cls op = .pure) : W P Q (.run (⟨i, L, r, d, op, some (g, b)⟩ :: l) F :: k) ρ H =
    ((if wantS (some (g, b)) ρ = true then pureV P op ρ else some (.lit undef)).isSome = true ∧
      W P Q (.run l F :: k) (put ρ d ((if wantS (some (g, b)) ρ = true then pureV P op ρ else some (.lit undef)).getD default)) H) := by
  show rM P _ F ρ H _ = _
  simp only [rM, hc]
  split
  · rfl
  · simp [W, WQ]
theorem W_guard_load {i L d t x g b l F} : W P Q (.run (⟨i, L, false, d, .load t x, some (g, b)⟩ :: l) F :: k) ρ H =
    ((if wantS (some (g, b)) ρ = true then loadV P t (ev ρ x) H else some (.lit undef)).isSome = true ∧
      W P Q (.run l F :: k) (put ρ d ((if wantS (some (g, b)) ρ = true then loadV P t (ev ρ x) H else some (.lit undef)).getD default)) H) := by
  show rM P _ F ρ H _ = _
  simp only [rM, cls, hold]
  split
  · rfl
  · simp [W, WQ]
theorem W_guard_loadr {i L d t x g b l F} : W P Q (.run (⟨i, L, true, d, .load t x, some (g, b)⟩ :: l) F :: k) ρ H =
    if wantS (some (g, b)) ρ = true then W P Q (.run (⟨i, L, true, d, .load t x, none⟩ :: l) F :: k) ρ H else W P Q (.run l F :: k) (put ρ d (.lit undef)) H := W_guard

theorem W_pure {i L r d op l F} (hc : cls op = .pure) : W P Q (.run (⟨i, L, r, d, op, none⟩ :: l) F :: k) ρ H =
    ((pureV P op ρ).isSome = true ∧ W P Q (.run l F :: k) (put ρ d ((pureV P op ρ).getD default)) H) := by
  show rM P _ F ρ H _ = _
  simp only [rM, wantS, if_true, hc]
  rfl

theorem W_load {i L r d t x l F} : W P Q (.run (⟨i, L, r, d, .load t x, none⟩ :: l) F :: k) ρ H =
    ((loadV P t (ev ρ x) H).isSome = true ∧ W P Q (.run l (hold r (i, .load t (ev ρ x) ((loadV P t (ev ρ x) H).getD default)) F) :: k) (put ρ d ((loadV P t (ev ρ x) H).getD default)) H) := _root_.id rfl

theorem W_alloc' {i L r d op l F} (hc : cls op = .alloc) : W P Q (.run (⟨i, L, r, d, op, none⟩ :: l) F :: k) ρ H =
    ((allocV P op ρ).isSome = true ∧ W P Q (.run l (hold r (i, .obj H.length ((allocV P op ρ).getD default).1) F) :: k) (put ρ d (((allocV P op ρ).getD default).2 H.length)) (H ++ [some ⟨((allocV P op ρ).getD default).1, true⟩])) := by
  show rM P _ F ρ H _ = _
  simp only [rM, wantS, if_true, hc]
  rfl

theorem W_store {i L r d t x y l F} : W P Q (.run (⟨i, L, r, d, .store t x y, none⟩ :: l) F :: k) ρ H =
    ((storeV P t (ev ρ x) (ev ρ y) H).isSome = true ∧ held P L ((storeV P t (ev ρ x) (ev ρ y) H).getD []) F ∧ W P Q (.run l F :: k) (put ρ d (.lit undef)) ((storeV P t (ev ρ x) (ev ρ y) H).getD [])) := by
  show rM P _ F ρ H _ = _
  simp only [rM, wantS, if_true, cls, effM]
  cases storeV P t (ev ρ x) (ev ρ y) H with
  | none => simp
  | some H' => simp [W, WQ]

theorem W_call {i L r d f args ats l F} : W P Q (.run (⟨i, L, r, d, .call { callee := .value f, args := args, argTypes := ats }, none⟩ :: l) F :: k) ρ H =
    CallK P Q (ev ρ f) (evs ρ args) d L l F k ρ H := by
  show rM P _ F ρ H _ = _
  simp only [rM, wantS, if_true, cls, effM]
  rfl

/-- An append: what comes of it hangs on how much room there is. -/
def AppK (P : Program) (Q : MQ) (a : Option (Option (List MV × Nat × Nat) × MH)) (n0 : Nat) (d : Option Tmp) (L : List Nat) (l : List Stp) (F : List (Nat × HF)) (k : List It) (ρ : Env) : Prop :=
  match a with
  | some (none, H') => held P L H' F ∧ W P Q (.run l F :: k) (put ρ d (.lit (.slice none 0 0))) H'
  | some (some (cs, n, esz), H') => ∀ c, n ≤ c → held P L H' F ∧ W P Q (.run l F :: k) (put ρ d (.slice n0 0 n c esz)) H'
  | none => False

theorem W_append {i L r d s x ats l F} : W P Q (.run (⟨i, L, r, d, .call { callee := .builtin .append, args := #[s, x], argTypes := ats }, none⟩ :: l) F :: k) ρ H =
    AppK P Q (appV P ats (ev ρ s) (ev ρ x) H) H.length d L l F k ρ := by
  show rM P _ F ρ H _ = _
  simp only [rM, wantS, if_true, cls, effM]
  rfl

theorem W_copy {i L r d s x ats l F} : W P Q (.run (⟨i, L, r, d, .call { callee := .builtin .copy, args := #[s, x], argTypes := ats }, none⟩ :: l) F :: k) ρ H =
    match copyV P ats (ev ρ s) (ev ρ x) H with
    | some (n, H') => held P L H' F ∧ W P Q (.run l F :: k) (put ρ d (.lit (.int .i64 n))) H'
    | none => False := by
  show rM P _ F ρ H _ = _
  simp only [rM, wantS, if_true, cls, effM]
  rfl
theorem W_clear {i L r d x ats l F} : W P Q (.run (⟨i, L, r, d, .call { callee := .builtin .clear, args := #[x], argTypes := ats }, none⟩ :: l) F :: k) ρ H =
    match clearV P ats (ev ρ x) H with
    | some H' => held P L H' F ∧ W P Q (.run l F :: k) (put ρ d (.tup [])) H'
    | none => False := by
  show rM P _ F ρ H _ = _
  simp only [rM, wantS, if_true, cls, effM]
  rfl

/-- A call, by what is known of the function. -/
theorem CallK_of {g : FuncId} {a b args : List MV} {d L l F} {K : MV → MH → Prop} (hs : Spec P g (a ++ args ++ b) H K) (hn : ∀ v H', K v H' → held P L H' F ∧ W P Q (.run l F :: k) (put ρ d v) H') :
    CallK P Q (.fn (.func g) a b) args d L l F k ρ H := hs.mono hn

/-- A call of a function that answers r and leaves the memory as it was. -/
theorem CallK_eq {g : FuncId} {args : List MV} {d L l F} {r : MV} (hs : Spec P g args H fun v H' => v = r ∧ H' = H) (hh : held P L H F) (h : W P Q (.run l F :: k) (put ρ d r) H) :
    CallK P Q (.fn (.func g) [] []) args d L l F k ρ H := by
  refine CallK_of (a := []) (b := []) (by simpa using hs) ?_
  rintro v H' ⟨rfl, rfl⟩
  exact ⟨hh, h⟩

theorem held_nil {P : Program} {L H} : held P L H [] = True := _root_.id rfl

theorem mwp_mono : ∀ (c : Code) (Q Q' : MQ) (ρ : Env) (H : MH), (∀ e ρ H, Q e ρ H → Q' e ρ H) → mwp P c Q ρ H → mwp P c Q' ρ H := by
  have rmono : ∀ (l : List Stp) (F : List (Nat × HF)) (ρ : Env) (H : MH) (K K' : Env → MH → Prop), (∀ ρ H, K ρ H → K' ρ H) → rM P l F ρ H K → rM P l F ρ H K' := by
    intro l
    induction l with
    | nil => intro F ρ H K K' hk h; exact hk _ _ h
    | cons s l ih =>
      intro F ρ H K K' hk h
      simp only [rM] at h ⊢
      split at h
      · rename_i hw
        rw [if_pos hw]
        split at h
        · exact ⟨h.1, ih _ _ _ _ _ hk h.2⟩
        · exact ⟨h.1, ih _ _ _ _ _ hk h.2⟩
        · exact ⟨h.1, ih _ _ _ _ _ hk h.2⟩
        · exact effM_mono (fun v H' hh => ⟨hh.1, ih _ _ _ _ _ hk hh.2⟩) h
      · rename_i hw
        rw [if_neg hw]
        exact ih _ _ _ _ _ hk h
  intro c
  induction c with
  | skip => intro Q Q' ρ H hq h; exact hq _ _ _ h
  | region id ops draw =>
    intro Q Q' ρ H hq h
    cases draw
    · exact rmono _ _ _ _ _ _ (fun ρ H => hq _ ρ H) h
    · obtain ⟨pl, R0, h1, h2⟩ := by simpa only [mwp] using h
      exact ⟨pl, R0, h1, rmono _ _ _ _ _ _ (fun ρ H => hq _ ρ H) h2⟩
  | seq x y ihx ihy =>
    intro Q Q' ρ H hq h
    refine ihx _ _ ρ H ?_ h
    intro e ρ H he
    cases e with
    | normal => exact ihy _ _ ρ H hq he
    | exit id => exact hq _ _ _ he
    | ret => exact hq _ _ _ he
  | cond c x y ihx ihy =>
    intro Q Q' ρ H hq h
    obtain ⟨b, hb, h1, h2⟩ := by simpa only [mwp] using h
    exact ⟨b, hb, fun hx => ihx _ _ ρ H hq (h1 hx), fun hx => ihy _ _ ρ H hq (h2 hx)⟩
  | block id x ih =>
    intro Q Q' ρ H hq h
    refine ih _ _ ρ H ?_ h
    intro e ρ H he
    cases e with
    | normal => exact hq _ _ _ he
    | exit i =>
      simp only [blockQ] at he ⊢
      split at he
      · rename_i hi; rw [if_pos hi]; exact hq _ _ _ he
      · rename_i hi; rw [if_neg hi]; exact hq _ _ _ he
    | ret => exact hq _ _ _ he
  | loop x ih =>
    intro Q Q' ρ H hq h
    obtain ⟨n, hn⟩ := by simpa only [mwp] using h
    refine ⟨n, ?_⟩
    clear h
    induction n generalizing ρ H with
    | zero => exact hn
    | succ n ihn =>
      refine ih _ _ ρ H ?_ hn
      intro e ρ H he
      cases e with
      | normal => exact ihn ρ H he
      | exit id => exact hq _ _ _ he
      | ret => exact hq _ _ _ he
  | exit id => intro Q Q' ρ H hq h; exact hq _ _ _ h
  | ret => intro Q Q' ρ H hq h; exact hq _ _ _ h
  | scope x ih => intro Q Q' ρ H hq h; exact ih _ _ ρ H hq h
  | label id => intro Q Q' ρ H hq h; exact hq _ _ _ h
  | _ => intro Q Q' ρ H hq h; exact h.elim

/-- The ways through a statement are brought together behind it. -/
theorem W_cut {c : Code} (S : Env → MH → Prop) (h1 : W P Q (.code c :: .back S :: k) ρ H) (h2 : ∀ ρ H, S ρ H → W P Q k ρ H) : W P Q (.code c :: k) ρ H := by
  refine mwp_mono c _ _ ρ H ?_ h1
  intro e ρ H he
  cases e with
  | normal => exact h2 ρ H he
  | exit id => exact he
  | ret => exact he

/-- A loop: what holds at each round's head, and what goes down. -/
theorem W_loop (I : Env → MH → Prop) (m : Env → MH → Nat) {c : Code} (h0 : I ρ H)
    (round : ∀ ρ H, I ρ H → W P Q (.code c :: .back (fun ρ' H' => I ρ' H' ∧ m ρ' H' < m ρ H) :: k) ρ H) : W P Q (.code (.loop c) :: k) ρ H := by
  show ∃ n, loopN (mwp P c) (WQ P Q k) n ρ H
  have mono := @mwp_mono P
  have key : ∀ (j : Nat) (ρ : Env) (H : MH), m ρ H < j → I ρ H → loopN (mwp P c) (WQ P Q k) j ρ H := by
    intro j
    induction j with
    | zero => intro ρ H hj; omega
    | succ j ih =>
      intro ρ H hj hI
      refine mono c _ _ ρ H ?_ (round ρ H hI)
      intro e ρ' H' he
      cases e with
      | normal => exact ih ρ' H' (by have := he.2; omega) he.1
      | exit id => exact he
      | ret => exact he
  exact ⟨m ρ H + 1, key _ ρ H (by omega) h0⟩

end

/-- A function, by the walk of its body. -/
theorem enter {P : Program} {f : FuncId} {fn : Func} {c : Code} {args : List MV} {H : MH} {K : MV → MH → Prop} (hf : P.funcs[f]? = some fn) (rs : List ResultVar)
    (h : W P (retQ P rs K) [.code c] (args0 args) H) (hm : P.follows .mixedOrders = true := by assumption) (hb : fn.body = some c := by exact rfl) (hr : fn.results.toList = rs := by exact rfl) (hname : fn.name ≠ "runtime.NumGoroutine" := by decide)
    (hn : args.length ≤ fn.ntmps := by exact (Nat.le_of_ble_eq_true rfl)) (hok : codeOk fn.ntmps c = true := by kernel_rfl) : Spec P f args H K := by
  subst hr
  exact spec_of_body hm hf hb hname hn hok h

end Go.Proofs.YtcikcinkjbbnhaaDoor.M

/- The small machine, seventeenth part: rows for rewriting. -/
set_option linter.unusedSimpArgs false
set_option linter.unusedVariables false
namespace Go.Proofs.YtcikcinkjbbnhaaDoor.M
open Go

section
variable {P : Program} {ρ : Env} {H : MH}

theorem ev_tmp {t} : ev ρ (.tmp t) = ρ t := _root_.id rfl
theorem ev_int {k n} : ev ρ (.const (.int k n)) = .lit (.int k n) := _root_.id rfl
theorem ev_bool {b} : ev ρ (.const (.bool b)) = .lit (.bool b) := _root_.id rfl
theorem ev_string {b} : ev ρ (.const (.string b)) = .lit (.string b) := _root_.id rfl
theorem ev_pointer {b} : ev ρ (.const (.pointer b)) = .lit (.pointer b) := _root_.id rfl
theorem ev_slice {a b c} : ev ρ (.const (.slice a b c)) = .lit (.slice a b c) := _root_.id rfl
theorem ev_agg {cs} : ev ρ (.const (.agg ⟨cs⟩)) = .agg (cs.map .lit) := _root_.id rfl
theorem ev_tuple {cs} : ev ρ (.const (.tuple ⟨cs⟩)) = .tup (cs.map .lit) := _root_.id rfl
theorem ev_nilFunc : ev ρ (.const .nilFunc) = .lit .nilFunc := _root_.id rfl
theorem ev_func {f} : ev ρ (.func f) = .fn (.func f) [] [] := _root_.id rfl
theorem evs_mk {l} : evs ρ ⟨l⟩ = l.map (ev ρ) := _root_.id rfl

theorem put_some {d : Tmp} {v : MV} {t : Tmp} : put ρ (some d) v t = if t = d then v else ρ t := _root_.id rfl
theorem put_none {v : MV} : put ρ none v = ρ := _root_.id rfl
theorem args0_get {args : List MV} {t : Nat} : args0 args t = args.getD t (.lit undef) := _root_.id rfl

def nilV : MV → Option MV
  | .ptr p o => some (.ptr p o)
  | _ => none
theorem nilV_ptr {p o} : nilV (.ptr p o) = some (.ptr p o) := _root_.id rfl
def exV (x : MV) (i : Nat) : Option MV := match x with
  | .tup vs => vs[i]?
  | _ => none
theorem exV_tup {vs i} : exV (.tup vs) i = vs[i]? := _root_.id rfl
def faV (k : TK) (x : MV) (i : Nat) : Option MV := match x, k with
  | .ptr p o, .struct fs => match fs[i]? with
    | some (off, sz) => if sz = 0 then none else some (.ptr p (o + off))
    | none => none
  | _, _ => none
theorem faV_ptr {p o fs i} : faV (.struct fs) (.ptr p o) i = match fs[i]? with
    | some (off, sz) => if sz = 0 then none else some (.ptr p (o + off))
    | none => none := _root_.id rfl
def iaV (k : TK) (x i : MV) : Option MV := match x, i, k with
  | .slice p o n _ _, .lit (.int _ j), .slice esz _ _ _ => if 0 ≤ j ∧ j < n then some (.ptr p (o + j.toNat * esz)) else none
  | .ptr p o, .lit (.int _ j), .array n esz => if 0 ≤ j ∧ j < n then some (.ptr p (o + j.toNat * esz)) else none
  | .lit (.pointer (some ⟨b, o, none⟩)), .lit (.int _ j), .array n esz => if 0 ≤ j ∧ j < n then some (.lit (.pointer (some ⟨b, o + j.toNat * esz, none⟩))) else none
  | _, _, _ => none
theorem iaV_tab {b o kk j n esz} : iaV (.array n esz) (.lit (.pointer (some ⟨b, o, none⟩))) (.lit (.int kk j)) = if 0 ≤ j ∧ j < (n : Int) then some (.lit (.pointer (some ⟨b, o + j.toNat * esz, none⟩))) else none := _root_.id rfl
theorem loadV_tab {P t b o H} : loadV P t (.lit (.pointer (some ⟨b, o, none⟩))) H = if (ty P t).known then if (ty P t).agg then none else (tabT b o).map .lit else none := _root_.id rfl
theorem ev_glob {g} : ev ρ (.global g) = .lit (.pointer (some ⟨g, 0, none⟩)) := _root_.id rfl
theorem iaV_slice {p o n c z kk j esz eb ez ei} : iaV (.slice esz eb ez ei) (.slice p o n c z) (.lit (.int kk j)) = if 0 ≤ j ∧ j < (n : Int) then some (.ptr p (o + j.toNat * esz)) else none := _root_.id rfl
theorem iaV_array {p o kk j n esz} : iaV (.array n esz) (.ptr p o) (.lit (.int kk j)) = if 0 ≤ j ∧ j < (n : Int) then some (.ptr p (o + j.toNat * esz)) else none := _root_.id rfl
def ixV (k : TK) (x i : MV) : Option MV := match x, i, k with
  | .lit (.string s), .lit (.int _ j), .string => if 0 ≤ j then (s[j.toNat]?).map fun b => .lit (.int .u8 b.toNat) else none
  | _, _, _ => none
theorem ixV_string {s kk j} : ixV .string (.lit (.string s)) (.lit (.int kk j)) = if 0 ≤ j then (s[j.toNat]?).map fun b => .lit (.int .u8 b.toNat) else none := _root_.id rfl
def buildV (T : Ty) (parts : List (Nat × MV)) : Option MV := match T.zero, T.k with
    | some z, .struct fs => (fillM (fs[·]?) (z.map .lit) parts).map .agg
    | some z, .array n e => (fillM (fun i => some (i * e, e)) (z.map .lit) parts).map .agg
    | _, _ => none
def slV (k : TK) (x : MV) (l h : Option MV) : Option MV := match k with
    | .slice esz _ _ _ => sliceV esz x l h
    | _ => none
def pickV (c a b : MV) : Option MV := (asB c).map fun t => if t then a else b
theorem pickV_bool {b x y} : pickV (.lit (.bool b)) x y = some (if b = true then x else y) := _root_.id rfl

variable {Q : MQ} {k : List It} {i : Nat} {L : List Nat} {r : Bool} {d : Option Tmp} {l : List Stp} {F : List (Nat × HF)}

theorem W_move {x} : W P Q (.run (⟨i, L, r, d, .move x, none⟩ :: l) F :: k) ρ H = W P Q (.run l F :: k) (put ρ d (ev ρ x)) H := by rw [W_pure rfl]; simp [pureV]
theorem W_assign {x} : W P Q (.run (⟨i, L, r, d, .assign x, none⟩ :: l) F :: k) ρ H = W P Q (.run l F :: k) (put ρ d (ev ρ x)) H := by rw [W_pure rfl]; simp [pureV]
theorem W_pick {c a b} : W P Q (.run (⟨i, L, r, d, .pick c a b, none⟩ :: l) F :: k) ρ H = ((pickV (ev ρ c) (ev ρ a) (ev ρ b)).isSome = true ∧ W P Q (.run l F :: k) (put ρ d ((pickV (ev ρ c) (ev ρ a) (ev ρ b)).getD default)) H) := by rw [W_pure rfl]; rfl
theorem W_build {t parts} : W P Q (.run (⟨i, L, r, d, .build t parts, none⟩ :: l) F :: k) ρ H =
    ((buildV (ty P t) (parts.toList.map fun x => (x.1, ev ρ x.2))).isSome = true ∧ W P Q (.run l F :: k) (put ρ d ((buildV (ty P t) (parts.toList.map fun x => (x.1, ev ρ x.2))).getD default)) H) := by rw [W_pure rfl]; rfl
theorem W_nilCheck {x} : W P Q (.run (⟨i, L, r, d, .nilCheck x, none⟩ :: l) F :: k) ρ H = ((nilV (ev ρ x)).isSome = true ∧ W P Q (.run l F :: k) (put ρ d ((nilV (ev ρ x)).getD default)) H) := by rw [W_pure rfl]; rfl
theorem W_binOp {op t x y u} : W P Q (.run (⟨i, L, r, d, .binOp op t x y u, none⟩ :: l) F :: k) ρ H = ((binV P op t (ev ρ x) (ev ρ y)).isSome = true ∧ W P Q (.run l F :: k) (put ρ d ((binV P op t (ev ρ x) (ev ρ y)).getD default)) H) := by rw [W_pure rfl]; rfl
theorem W_unOp {op t x} : W P Q (.run (⟨i, L, r, d, .unOp op t x, none⟩ :: l) F :: k) ρ H = ((unV op (ev ρ x)).isSome = true ∧ W P Q (.run l F :: k) (put ρ d ((unV op (ev ρ x)).getD default)) H) := by rw [W_pure rfl]; rfl
theorem W_convert {s t x} : W P Q (.run (⟨i, L, r, d, .convert s t x, none⟩ :: l) F :: k) ρ H = ((convV P s t (ev ρ x)).isSome = true ∧ W P Q (.run l F :: k) (put ρ d ((convV P s t (ev ρ x)).getD default)) H) := by rw [W_pure rfl]; rfl
theorem W_extract {x j} : W P Q (.run (⟨i, L, r, d, .extract x j, none⟩ :: l) F :: k) ρ H = ((exV (ev ρ x) j).isSome = true ∧ W P Q (.run l F :: k) (put ρ d ((exV (ev ρ x) j).getD default)) H) := by rw [W_pure rfl]; rfl
theorem W_fieldAddr {t x j} : W P Q (.run (⟨i, L, r, d, .fieldAddr t x j, none⟩ :: l) F :: k) ρ H = ((faV (ty P t).k (ev ρ x) j).isSome = true ∧ W P Q (.run l F :: k) (put ρ d ((faV (ty P t).k (ev ρ x) j).getD default)) H) := by rw [W_pure rfl]; rfl
theorem W_indexAddr {t x j} : W P Q (.run (⟨i, L, r, d, .indexAddr t x j, none⟩ :: l) F :: k) ρ H = ((iaV (ty P t).k (ev ρ x) (ev ρ j)).isSome = true ∧ W P Q (.run l F :: k) (put ρ d ((iaV (ty P t).k (ev ρ x) (ev ρ j)).getD default)) H) := by rw [W_pure rfl]; rfl
theorem W_index {t x j} : W P Q (.run (⟨i, L, r, d, .index t x j, none⟩ :: l) F :: k) ρ H = ((ixV (ty P t).k (ev ρ x) (ev ρ j)).isSome = true ∧ W P Q (.run l F :: k) (put ρ d ((ixV (ty P t).k (ev ρ x) (ev ρ j)).getD default)) H) := by rw [W_pure rfl]; rfl
theorem W_slice {t x lo hi} : W P Q (.run (⟨i, L, r, d, .slice t x lo hi none, none⟩ :: l) F :: k) ρ H = ((slV (ty P t).k (ev ρ x) (lo.map (ev ρ)) (hi.map (ev ρ))).isSome = true ∧ W P Q (.run l F :: k) (put ρ d ((slV (ty P t).k (ev ρ x) (lo.map (ev ρ)) (hi.map (ev ρ))).getD default)) H) := by rw [W_pure rfl]; rfl
def sl3V (k : TK) (x : MV) (l h : Option MV) (m : MV) : Option MV := match k with
  | .slice esz _ _ _ => slice3V esz x l h m
  | _ => none
theorem sl3V_slice {a b c d x l h m} : sl3V (.slice a b c d) x l h m = slice3V a x l h m := _root_.id rfl
theorem W_slice3 {t x lo hi mx} : W P Q (.run (⟨i, L, r, d, .slice t x lo hi (some mx), none⟩ :: l) F :: k) ρ H = ((sl3V (ty P t).k (ev ρ x) (lo.map (ev ρ)) (hi.map (ev ρ)) (ev ρ mx)).isSome = true ∧ W P Q (.run l F :: k) (put ρ d ((sl3V (ty P t).k (ev ρ x) (lo.map (ev ρ)) (hi.map (ev ρ)) (ev ρ mx)).getD default)) H) := by rw [W_pure rfl]; rfl
theorem W_makeFunc {f a b} : W P Q (.run (⟨i, L, r, d, .makeFunc f a b, none⟩ :: l) F :: k) ρ H = W P Q (.run l F :: k) (put ρ d (.fn f (evs ρ a) (evs ρ b))) H := by rw [W_pure rfl]; simp [pureV]
theorem W_len {t x} : W P Q (.run (⟨i, L, r, d, .call { callee := .builtin .len, args := #[x], argTypes := #[t] }, none⟩ :: l) F :: k) ρ H = ((lenV P t (ev ρ x)).isSome = true ∧ W P Q (.run l F :: k) (put ρ d ((lenV P t (ev ρ x)).getD default)) H) := by rw [W_pure rfl]; rfl
theorem W_max {x y ats} : W P Q (.run (⟨i, L, r, d, .call { callee := .builtin .max, args := #[x, y], argTypes := ats }, none⟩ :: l) F :: k) ρ H = ((maxM (ev ρ x) (ev ρ y)).isSome = true ∧ W P Q (.run l F :: k) (put ρ d ((maxM (ev ρ x) (ev ρ y)).getD default)) H) := by
  rw [W_pure rfl]
  simp only [pureV, evs, foldV, List.map_cons, List.map_nil]
  cases maxM (ev ρ x) (ev ρ y) <;> simp [foldV]
theorem W_min {x y ats} : W P Q (.run (⟨i, L, r, d, .call { callee := .builtin .min, args := #[x, y], argTypes := ats }, none⟩ :: l) F :: k) ρ H = ((minM (ev ρ x) (ev ρ y)).isSome = true ∧ W P Q (.run l F :: k) (put ρ d ((minM (ev ρ x) (ev ρ y)).getD default)) H) := by
  rw [W_pure rfl]
  simp only [pureV, evs, foldV, List.map_cons, List.map_nil]
  cases minM (ev ρ x) (ev ρ y) <;> simp [foldV]

theorem pv_move {x} : pureV P (.move x) ρ = some (ev ρ x) := _root_.id rfl
theorem pv_assign {x} : pureV P (.assign x) ρ = some (ev ρ x) := _root_.id rfl
theorem pv_pick {c a b} : pureV P (.pick c a b) ρ = pickV (ev ρ c) (ev ρ a) (ev ρ b) := _root_.id rfl
theorem pv_build {t parts} : pureV P (.build t parts) ρ = buildV (ty P t) (parts.toList.map fun x => (x.1, ev ρ x.2)) := _root_.id rfl
theorem pv_nilCheck {x} : pureV P (.nilCheck x) ρ = nilV (ev ρ x) := _root_.id rfl
theorem pv_binOp {op t x y u} : pureV P (.binOp op t x y u) ρ = binV P op t (ev ρ x) (ev ρ y) := _root_.id rfl
theorem pv_unOp {op t x} : pureV P (.unOp op t x) ρ = unV op (ev ρ x) := _root_.id rfl
theorem pv_convert {s t x} : pureV P (.convert s t x) ρ = convV P s t (ev ρ x) := _root_.id rfl
theorem pv_extract {x j} : pureV P (.extract x j) ρ = exV (ev ρ x) j := _root_.id rfl
theorem pv_fieldAddr {t x j} : pureV P (.fieldAddr t x j) ρ = faV (ty P t).k (ev ρ x) j := _root_.id rfl
theorem pv_indexAddr {t x j} : pureV P (.indexAddr t x j) ρ = iaV (ty P t).k (ev ρ x) (ev ρ j) := _root_.id rfl
theorem pv_index {t x j} : pureV P (.index t x j) ρ = ixV (ty P t).k (ev ρ x) (ev ρ j) := _root_.id rfl
theorem pv_slice {t x lo hi} : pureV P (.slice t x lo hi none) ρ = slV (ty P t).k (ev ρ x) (lo.map (ev ρ)) (hi.map (ev ρ)) := _root_.id rfl
theorem pv_len {t x} : pureV P (.call { callee := .builtin .len, args := #[x], argTypes := #[t] }) ρ = lenV P t (ev ρ x) := _root_.id rfl

theorem ite_some {c : Prop} [Decidable c] {a b : MV} : (if c then some a else some b) = some (if c then a else b) := by split <;> rfl
theorem ite_bool {c : Prop} [Decidable c] {a b : Bool} : (if c then MV.lit (.bool a) else MV.lit (.bool b)) = MV.lit (.bool (if c then a else b)) := by split <;> rfl
theorem ite_int {c : Prop} [Decidable c] {k : IntKind} {a b : Int} : (if c then MV.lit (.int k a) else MV.lit (.int k b)) = MV.lit (.int k (if c then a else b)) := by split <;> rfl
theorem pick_undef {c : Prop} [Decidable c] {a b u : MV} : (if c then (if c then a else u) else b) = if c then a else b := by split <;> simp_all
theorem ite_and {c : Prop} [Decidable c] {a : Bool} : (if c then a else false) = (decide c && a) := by split <;> simp_all
theorem ite_or {c : Prop} [Decidable c] {a : Bool} : (if c then true else a) = (decide c || a) := by split <;> simp_all
theorem some_beq {a b : Bool} : ((some a == some b) = true) = (a = b) := by simp

theorem W_alloc {e} : W P Q (.run (⟨i, L, r, d, .alloc e, none⟩ :: l) F :: k) ρ H =
    ((ty P e).zero.isSome = true ∧ W P Q (.run l (hold r (i, .obj H.length (((ty P e).zero.getD []).map .lit)) F) :: k) (put ρ d (.ptr H.length 0)) (H ++ [some ⟨((ty P e).zero.getD []).map .lit, true⟩])) := by
  rw [W_alloc' rfl]
  simp only [allocV]
  cases (ty P e).zero <;> simp
theorem W_box {e x} : W P Q (.run (⟨i, L, r, d, .box e x, none⟩ :: l) F :: k) ρ H =
    W P Q (.run l (hold r (i, .obj H.length (cellsM (ev ρ x))) F) :: k) (put ρ d (.ptr H.length 0)) (H ++ [some ⟨cellsM (ev ρ x), true⟩]) := by
  rw [W_alloc' rfl]
  simp [allocV]
/-- The cells of a slice literal. -/
def bsV (k : TK) (n : Nat) (parts : List (Nat × MV)) : Option (List MV × Nat) := match k with
  | .slice esz _ (some z) _ =>
    if n * esz ≤ 2 ^ 24 ∧ z.length = esz then
      (fillM (fun i => some (i * esz, esz)) ((List.range (n * esz)).map fun i => .lit (z.getD (i % z.length) undef)) parts).bind fun cs => if cs.length = n * esz then some (cs, esz) else none
    else none
  | _ => none
theorem W_buildSlice {t n parts} : W P Q (.run (⟨i, L, r, d, .buildSlice t n parts, none⟩ :: l) F :: k) ρ H =
    ((bsV (ty P t).k n (parts.toList.map fun x => (x.1, ev ρ x.2))).isSome = true ∧
      W P Q (.run l (hold r (i, .obj H.length ((bsV (ty P t).k n (parts.toList.map fun x => (x.1, ev ρ x.2))).getD default).1) F) :: k)
        (put ρ d (.slice H.length 0 n n ((bsV (ty P t).k n (parts.toList.map fun x => (x.1, ev ρ x.2))).getD default).2)) (H ++ [some ⟨((bsV (ty P t).k n (parts.toList.map fun x => (x.1, ev ρ x.2))).getD default).1, true⟩])) := by
  rw [W_alloc' rfl]
  simp only [allocV, bsV]
  cases (ty P t).k with
  | slice esz eb ez ei =>
    cases ez with
    | none => simp
    | some z =>
      simp only
      split
      · cases fillM (fun i => some (i * esz, esz)) ((List.range (n * esz)).map fun i => .lit (z.getD (i % z.length) undef)) (parts.toList.map fun x => (x.1, ev ρ x.2)) with
        | none => simp
        | some cs =>
          simp only [Option.bind_some]
          split <;> simp
      · simp
  | _ => simp
/-- make([]T, n). -/
def msV (k : TK) (x y : MV) : Option (List MV × Nat × Nat × Nat) := match k, x, y with
  | .slice esz eb (some z) _, .lit (.int .i64 n), .lit (.int .i64 m) =>
    if 0 ≤ n ∧ n ≤ m ∧ eb * m ≤ 2 ^ 48 ∧ m < 2 ^ 63 ∧ z.length = esz then some ((List.range (m.toNat * esz)).map fun i => .lit (z.getD (i % z.length) undef), n.toNat, m.toNat, esz) else none
  | _, _, _ => none
theorem W_makeSlice {t x y} : W P Q (.run (⟨i, L, r, d, .makeSlice t x y, none⟩ :: l) F :: k) ρ H =
    ((msV (ty P t).k (ev ρ x) (ev ρ y)).isSome = true ∧
      W P Q (.run l (hold r (i, .obj H.length ((msV (ty P t).k (ev ρ x) (ev ρ y)).getD default).1) F) :: k)
        (put ρ d (.slice H.length 0 ((msV (ty P t).k (ev ρ x) (ev ρ y)).getD default).2.1 ((msV (ty P t).k (ev ρ x) (ev ρ y)).getD default).2.2.1 ((msV (ty P t).k (ev ρ x) (ev ρ y)).getD default).2.2.2))
        (H ++ [some ⟨((msV (ty P t).k (ev ρ x) (ev ρ y)).getD default).1, true⟩])) := by
  rw [W_alloc' rfl]
  have : allocV P (.makeSlice t x y) ρ = (msV (ty P t).k (ev ρ x) (ev ρ y)).map fun r => (r.1, fun p => .slice p 0 r.2.1 r.2.2.1 r.2.2.2) := by
    simp only [allocV, msV]
    generalize (ty P t).k = T
    generalize ev ρ x = X
    generalize ev ρ y = Y
    split
    · simp only
      split <;> rfl
    · rename_i hno
      split
      · rename_i a b c d e f; exact (hno _ _ _ _ _ _ rfl rfl rfl).elim
      · rfl
  rw [this]
  cases msV (ty P t).k (ev ρ x) (ev ρ y) <;> simp
end

theorem replicate_zero {z : Value} {n : Nat} : ((List.range n).map fun i => MV.lit ([z].getD (i % [z].length) undef)) = List.replicate n (.lit z) := by
  apply List.ext_getElem?
  intro i
  simp only [List.length_cons, List.length_nil, Nat.mod_one, List.getElem?_map, List.getElem?_replicate]
  by_cases h : i < n <;> simp [h, List.getD, Nat.mod_one]

theorem ty_ptr {P : Program} {t : TypeId} (h : (ty P t).k = .ptr) : ∃ e, P.underlying t = some (.pointer e) := by
  rw [ty_k] at h
  split at h <;> first | (exact ⟨_, by assumption⟩) | (cases h; done) | (split at h <;> cases h)
/-! ### Numbers -/
section
variable {P : Program} {t : TypeId} {k : IntKind} {a b : Int}
theorem bin_add : binV P .add t (.lit (.int k a)) (.lit (.int k b)) = some (.lit (.int k (k.wrap (a + b)))) := by simp [binV]
theorem bin_sub : binV P .sub t (.lit (.int k a)) (.lit (.int k b)) = some (.lit (.int k (k.wrap (a - b)))) := by simp [binV]
theorem bin_mul : binV P .mul t (.lit (.int k a)) (.lit (.int k b)) = some (.lit (.int k (k.wrap (a * b)))) := by simp [binV]
theorem bin_quo : binV P .quo t (.lit (.int k a)) (.lit (.int k b)) = if b = 0 then none else some (.lit (.int k (k.wrap (a.tdiv b)))) := by simp [binV]
theorem bin_rem : binV P .rem t (.lit (.int k a)) (.lit (.int k b)) = if b = 0 then none else some (.lit (.int k (a.tmod b))) := by simp [binV]
theorem bin_and : binV P .and t (.lit (.int k a)) (.lit (.int k b)) = some (.lit (.int k (bits .and k a b))) := by simp [binV]
theorem bin_or : binV P .or t (.lit (.int k a)) (.lit (.int k b)) = some (.lit (.int k (bits .or k a b))) := by simp [binV]
theorem bin_xor : binV P .xor t (.lit (.int k a)) (.lit (.int k b)) = some (.lit (.int k (bits .xor k a b))) := by simp [binV]
theorem bin_andNot : binV P .andNot t (.lit (.int k a)) (.lit (.int k b)) = some (.lit (.int k (bits .andNot k a b))) := by simp [binV]
theorem beq_dec {a b : Int} : (a == b) = decide (a = b) := by
  by_cases h : a = b <;> simp [h]
theorem bin_eql : binV P .eql t (.lit (.int k a)) (.lit (.int k b)) = some (.lit (.bool (decide (a = b)))) := by simp [binV, beq_dec]
theorem bin_neq : binV P .neq t (.lit (.int k a)) (.lit (.int k b)) = some (.lit (.bool (!decide (a = b)))) := by
  simp only [binV, ne_eq, not_true_eq_false, if_false, bne, beq_dec]
theorem bin_lss : binV P .lss t (.lit (.int k a)) (.lit (.int k b)) = some (.lit (.bool (decide (a < b)))) := by simp [binV]
theorem bin_leq : binV P .leq t (.lit (.int k a)) (.lit (.int k b)) = some (.lit (.bool (decide (a ≤ b)))) := by simp [binV]
theorem bin_gtr : binV P .gtr t (.lit (.int k a)) (.lit (.int k b)) = some (.lit (.bool (decide (a > b)))) := by simp [binV]
theorem bin_geq : binV P .geq t (.lit (.int k a)) (.lit (.int k b)) = some (.lit (.bool (decide (a ≥ b)))) := by simp [binV]
theorem bin_shl {k'} : binV P .shl t (.lit (.int k a)) (.lit (.int k' b)) = if b < 0 then none else some (.lit (.int k (shlV k a b))) := by simp [binV]
theorem bin_shr {k'} : binV P .shr t (.lit (.int k a)) (.lit (.int k' b)) = if b < 0 then none else some (.lit (.int k (shrV k a b))) := by simp [binV]
theorem un_neg : unV .neg (.lit (.int k a)) = some (.lit (.int k (k.wrap (0 - a)))) := _root_.id rfl
theorem un_xor : unV .xor (.lit (.int k a)) = some (.lit (.int k (bits .xor k (if k.signed then -1 else k.max) a))) := _root_.id rfl
theorem un_not {b : Bool} : unV .not (.lit (.bool b)) = some (.lit (.bool !b)) := _root_.id rfl
theorem max_int {k'} : maxM (.lit (.int k a)) (.lit (.int k' b)) = some (.lit (.int k (if b > a then b else a))) := _root_.id rfl
theorem min_int {k'} : minM (.lit (.int k a)) (.lit (.int k' b)) = some (.lit (.int k (if b < a then b else a))) := _root_.id rfl
theorem asB_bool {b : Bool} : asB (.lit (.bool b)) = some b := _root_.id rfl
theorem bin_eql_bl {P : Program} {t : TypeId} {a b : Bool} (h : P.underlying t = some .bool) : binV P .eql t (.lit (.bool a)) (.lit (.bool b)) = some (.lit (.bool (a == b))) := by simp [binV, h]
theorem bin_neq_bl {P : Program} {t : TypeId} {a b : Bool} (h : P.underlying t = some .bool) : binV P .neq t (.lit (.bool a)) (.lit (.bool b)) = some (.lit (.bool (!(a == b)))) := by simp [binV, h]
theorem bin_eql_pn {P : Program} {t : TypeId} {p o : Nat} (h : (ty P t).k = .ptr) : binV P .eql t (.ptr p o) (.lit (.pointer none)) = some (.lit (.bool false)) := by
  obtain ⟨e, he⟩ := ty_ptr h
  simp [binV, he]
theorem bin_neq_pn {P : Program} {t : TypeId} {p o : Nat} (h : (ty P t).k = .ptr) : binV P .neq t (.ptr p o) (.lit (.pointer none)) = some (.lit (.bool true)) := by
  obtain ⟨e, he⟩ := ty_ptr h
  simp [binV, he]
theorem bin_eql_nn {P : Program} {t : TypeId} (h : (ty P t).k = .ptr) : binV P .eql t (.lit (.pointer none)) (.lit (.pointer none)) = some (.lit (.bool true)) := by
  obtain ⟨e, he⟩ := ty_ptr h
  simp [binV, he]
theorem bin_neq_nn {P : Program} {t : TypeId} (h : (ty P t).k = .ptr) : binV P .neq t (.lit (.pointer none)) (.lit (.pointer none)) = some (.lit (.bool false)) := by
  obtain ⟨e, he⟩ := ty_ptr h
  simp [binV, he]
theorem asB_undef : asB (.lit undef) = none := _root_.id rfl
theorem bin_eql_agg' {P : Program} {t : TypeId} {xs ys : List MV} : binV P .eql t (.agg xs) (.agg ys) = if flatB P t && xs.length == nfields P t && ys.length == nfields P t then (eqL xs ys).map fun r => .lit (.bool r) else none := by
  simp only [binV]
  split
  · cases eqL xs ys <;> rfl
  · rfl
theorem bin_neq_agg' {P : Program} {t : TypeId} {xs ys : List MV} : binV P .neq t (.agg xs) (.agg ys) = if flatB P t && xs.length == nfields P t && ys.length == nfields P t then (eqL xs ys).map fun r => .lit (.bool (!r)) else none := by
  simp only [binV]
  split
  · cases eqL xs ys <;> rfl
  · rfl
theorem eqL_nil : eqL [] [] = some true := _root_.id rfl
theorem eqL_cons {k : IntKind} {a b : Int} {xs ys : List MV} : eqL (.lit (.int k a) :: xs) (.lit (.int k b) :: ys) = (eqL xs ys).map fun r => decide (a = b) && r := by
  simp only [eqL, if_true, beq_dec]
theorem nat_beq {a : Nat} : (a == a) = true := by simp
theorem wantS_some {d : Tmp} {w : Bool} {ρ : Env} : wantS (some (some d, w)) ρ = (asB (ρ d) == some w) := _root_.id rfl
theorem mkG_none {full d op t p a} : mkG full ⟨d, op, t, p, a, none⟩ = none := _root_.id rfl
theorem mkG_some {full d op t p a j w} : mkG full ⟨d, op, t, p, a, some (j, w)⟩ = some ((full[j]?).bind (·.dst), w) := _root_.id rfl
theorem cells_agg {vs} : cellsM (.agg vs) = vs := _root_.id rfl
theorem cells_int {k n} : cellsM (.lit (.int k n)) = [.lit (.int k n)] := _root_.id rfl
theorem cells_bool {b} : cellsM (.lit (.bool b)) = [.lit (.bool b)] := _root_.id rfl
theorem cells_string {b} : cellsM (.lit (.string b)) = [.lit (.string b)] := _root_.id rfl
theorem cells_slice {p o n c z} : cellsM (.slice p o n c z) = [.slice p o n c z] := _root_.id rfl
theorem cells_ptr {p o} : cellsM (.ptr p o) = [.ptr p o] := _root_.id rfl
theorem cells_nils {a b c} : cellsM (.lit (.slice a b c)) = [.lit (.slice a b c)] := _root_.id rfl
theorem cells_nilp {a} : cellsM (.lit (.pointer a)) = [.lit (.pointer a)] := _root_.id rfl
theorem cells_fn {f a b} : cellsM (.fn f a b) = [.fn f a b] := _root_.id rfl
end
/-! ### Rows of the core library, told anew: the kernel is not to find them by unfolding -/
section
variable {α β : Type} {a b : α} {f : α → β} {l m : List α} {n : Nat}
theorem s_isSome : (some a).isSome = true := _root_.id rfl
theorem s_isNone : (none : Option α).isSome = false := _root_.id rfl
theorem s_getD : (some a).getD b = a := _root_.id rfl
theorem s_omap : (some a).map f = some (f a) := _root_.id rfl
theorem s_obind {g : α → Option β} : (some a).bind g = g a := _root_.id rfl
theorem s_onone {g : α → Option β} : (none : Option α).bind g = none := _root_.id rfl
theorem s_join : (some (some a)).join = some a := _root_.id rfl
theorem s_join0 : (some none : Option (Option α)).join = none := _root_.id rfl
theorem s_join1 : (none : Option (Option α)).join = none := _root_.id rfl
theorem s_lgetD0 : (a :: l).getD 0 b = a := _root_.id rfl
theorem s_lgetDs : (a :: l).getD (n + 1) b = l.getD n b := by simp [List.getD]
theorem s_lgetDn : ([] : List α).getD n b = b := by simp [List.getD]
theorem s_map0 : ([] : List α).map f = [] := _root_.id rfl
theorem s_maps : (a :: l).map f = f a :: l.map f := _root_.id rfl
theorem s_get0 : (a :: l)[0]? = some a := _root_.id rfl
theorem s_gets : (a :: l)[n + 1]? = l[n]? := _root_.id rfl
theorem s_getn : ([] : List α)[n]? = none := _root_.id rfl
theorem s_len0 : ([] : List α).length = 0 := _root_.id rfl
theorem s_lens : (a :: l).length = l.length + 1 := _root_.id rfl
theorem s_drop0 : l.drop 0 = l := _root_.id rfl
theorem s_drops : (a :: l).drop (n + 1) = l.drop n := _root_.id rfl
theorem s_take0 : l.take 0 = [] := by simp
theorem s_takes : (a :: l).take (n + 1) = a :: l.take n := _root_.id rfl
theorem s_taken : ([] : List α).take n = [] := by simp
theorem s_set0 : (a :: l).set 0 b = b :: l := _root_.id rfl
theorem s_sets : (a :: l).set (n + 1) b = a :: l.set n b := _root_.id rfl
theorem s_app0 : ([] : List α) ++ l = l := _root_.id rfl
theorem s_apps : (a :: l) ++ m = a :: (l ++ m) := _root_.id rfl
theorem s_zip0 : ([] : List α).zipIdx n = [] := _root_.id rfl
theorem s_zips : (a :: l).zipIdx n = (a, n) :: l.zipIdx (n + 1) := by simp
theorem s_fold0 {γ : Type} {g : γ → α → γ} {c : γ} : ([] : List α).foldl g c = c := _root_.id rfl
theorem s_folds {γ : Type} {g : γ → α → γ} {c : γ} : (a :: l).foldl g c = l.foldl g (g c a) := _root_.id rfl
theorem s_all0 {p : α → Bool} : ([] : List α).all p = true := _root_.id rfl
theorem s_alls {p : α → Bool} : (a :: l).all p = (p a && l.all p) := by simp
theorem s_fst {x : α} {y : β} : (x, y).1 = x := _root_.id rfl
theorem s_snd {x : α} {y : β} : (x, y).2 = y := _root_.id rfl
end
theorem cls_move {x} : cls (.move x) = .pure := _root_.id rfl
theorem cls_assign {x} : cls (.assign x) = .pure := _root_.id rfl
theorem cls_pick {a b c} : cls (.pick a b c) = .pure := _root_.id rfl
theorem cls_build {a b} : cls (.build a b) = .pure := _root_.id rfl
theorem cls_nilCheck {a} : cls (.nilCheck a) = .pure := _root_.id rfl
theorem cls_binOp {a b c d e} : cls (.binOp a b c d e) = .pure := _root_.id rfl
theorem cls_unOp {a b c} : cls (.unOp a b c) = .pure := _root_.id rfl
theorem cls_convert {a b c} : cls (.convert a b c) = .pure := _root_.id rfl
theorem cls_extract {a b} : cls (.extract a b) = .pure := _root_.id rfl
theorem cls_fieldAddr {a b c} : cls (.fieldAddr a b c) = .pure := _root_.id rfl
theorem cls_field {a b c} : cls (.field a b c) = .pure := _root_.id rfl
theorem cls_indexAddr {a b c} : cls (.indexAddr a b c) = .pure := _root_.id rfl
theorem cls_index {a b c} : cls (.index a b c) = .pure := _root_.id rfl
theorem cls_slice {a b c d e} : cls (.slice a b c d e) = .pure := _root_.id rfl
theorem cls_len {a b} : cls (.call { callee := .builtin .len, args := a, argTypes := b }) = .pure := _root_.id rfl
theorem cls_max {a b} : cls (.call { callee := .builtin .max, args := a, argTypes := b }) = .pure := _root_.id rfl
theorem cls_min {a b} : cls (.call { callee := .builtin .min, args := a, argTypes := b }) = .pure := _root_.id rfl
theorem cls_load {a b} : cls (.load a b) = .load := _root_.id rfl
theorem cls_store {a b c} : cls (.store a b c) = .eff := _root_.id rfl
theorem cls_call {f a b} : cls (.call { callee := .value f, args := a, argTypes := b }) = .eff := _root_.id rfl
theorem cls_append {a b} : cls (.call { callee := .builtin .append, args := a, argTypes := b }) = .eff := _root_.id rfl
theorem cls_alloc {a} : cls (.alloc a) = .alloc := _root_.id rfl
theorem cls_box {a b} : cls (.box a b) = .alloc := _root_.id rfl
theorem cls_buildSlice {a b c} : cls (.buildSlice a b c) = .alloc := _root_.id rfl

/-! ### What the walk unfolds, told as rows -/
theorem stps_nil {full : List Oper} : stps full [] = [] := _root_.id rfl
theorem stps_cons {full : List Oper} {o l} : stps full (o :: l) = ⟨0, [], false, o.dst, o.op, mkG full o⟩ :: stps full l := _root_.id rfl
theorem vstps_nil {ops R} : vstps ops R [] = [] := _root_.id rfl
theorem vstps_cons {ops : List Oper} {R i L l} : vstps ⟨ops⟩ R ((i, L) :: l) = ⟨i, L, R.contains i, (ops.getD i default).dst, (ops.getD i default).op, mkG ops (ops.getD i default)⟩ :: vstps ⟨ops⟩ R l := by
  simp [vstps]
theorem o_dst {d op t p a g} : (Oper.mk d op t p a g).dst = d := _root_.id rfl
theorem o_op {d op t p a g} : (Oper.mk d op t p a g).op = op := _root_.id rfl
theorem hold_t {x F} : hold true x F = x :: F := _root_.id rfl
theorem hold_f {x F} : hold false x F = F := _root_.id rfl
theorem held_cons {P L H x F} : held P L H (x :: F) = ((x.1 ∈ L → x.2.sem P H) ∧ held P L H F) := _root_.id rfl
theorem held_nil' {P L H} : held P L H [] = True := _root_.id rfl
theorem sem_load {P t x v H} : (HF.load t x v).sem P H = (loadV P t x H = some v) := _root_.id rfl
theorem sem_obj {P p cs H} : (HF.obj p cs).sem P H = (hget H p = some ⟨cs, true⟩) := _root_.id rfl
theorem buildV_eq {T parts} : buildV T parts = match T.zero, T.k with
    | some z, .struct fs => (fillM (fs[·]?) (z.map .lit) parts).map .agg
    | some z, .array n e => (fillM (fun i => some (i * e, e)) (z.map .lit) parts).map .agg
    | _, _ => none := _root_.id rfl
theorem fillM_nil {pl cs} : fillM pl cs [] = some cs := _root_.id rfl
theorem fillM_cons {pl cs i v rest} : fillM pl cs ((i, v) :: rest) = match pl i with
    | none => none
    | some (off, size) => if (cellsM v).length ≠ size || off + (cellsM v).length > cs.length then none else fillM pl ((cellsM v).zipIdx.foldl (fun cs (c, j) => cs.set (off + j) c) cs) rest := _root_.id rfl
theorem slV_slice {a b c d x l h} : slV (.slice a b c d) x l h = sliceV a x l h := _root_.id rfl
theorem loadV_ptr {P t p o H} : loadV P t (.ptr p o) H = if (ty P t).known then
      if (ty P t).agg then
        match (ty P t).sz with
        | some n => (cellsAt H p o n).map .agg
        | none => none
      else (hget H p).bind fun ob => ob.cells[o]?
    else none := _root_.id rfl
theorem cellsAt_eq {H p o n} : cellsAt H p o n = (hget H p).bind fun ob => if o + n ≤ ob.cells.length then some ((ob.cells.drop o).take n) else none := _root_.id rfl
theorem mo_cells {c r} : (MO.mk c r).cells = c := _root_.id rfl
theorem mo_rw {c r} : (MO.mk c r).rw = r := _root_.id rfl
theorem storeV_ptr {P t p o v H} : storeV P t (.ptr p o) v H = match hget H p, (ty P t).sz with
    | some ob, some n => if ob.rw = true ∧ (cellsM v).length = n ∧ (cellsM v).all one = true ∧ o + n ≤ ob.cells.length then some (H.set p (some ⟨setL ob.cells o (cellsM v), true⟩)) else none
    | _, _ => none := _root_.id rfl
theorem setL_nil {cs o} : setL cs o [] = cs := _root_.id rfl
theorem setL_cons {cs o v vs} : setL cs o (v :: vs) = setL (cs.set o v) (o + 1) vs := _root_.id rfl
theorem one_int {k n} : one (.lit (.int k n)) = true := _root_.id rfl
theorem one_bool {b} : one (.lit (.bool b)) = true := _root_.id rfl
theorem one_string {b} : one (.lit (.string b)) = true := _root_.id rfl
theorem one_nilp {b} : one (.lit (.pointer b)) = true := _root_.id rfl
theorem one_nils {a b c} : one (.lit (.slice a b c)) = true := _root_.id rfl
theorem one_slice {p o n c z} : one (.slice p o n c z) = true := _root_.id rfl
theorem one_ptr {p o} : one (.ptr p o) = true := _root_.id rfl
theorem one_fn {f a b} : one (.fn f a b) = true := _root_.id rfl
theorem lenV_eq {P t x} : lenV P t x = match x, (ty P t).k with
  | .slice _ _ n _ _, .slice .. => some (.lit (.int .i64 n))
  | .lit (.slice _ n _), .slice .. => some (.lit (.int .i64 n))
  | .lit (.string s), .string => some (.lit (.int .i64 s.size))
  | _, .array n _ => some (.lit (.int .i64 n))
  | _, _ => none := _root_.id rfl
theorem convV_eq {P s d x} : convV P s d x = match x, (P.underlying s).isSome, (ty P d).k with
  | .lit (.int _ n), true, .int k => some (.lit (.int k (k.wrap n)))
  | _, _, _ => none := _root_.id rfl
theorem known_eq {P t} : (P.underlying t).isSome = (ty P t).known := _root_.id rfl
theorem ty_sz {a b c d e} : (Ty.mk a b c d e).sz = a := _root_.id rfl
theorem ty_zero {a b c d e} : (Ty.mk a b c d e).zero = b := _root_.id rfl
theorem ty_known {a b c d e} : (Ty.mk a b c d e).known = c := _root_.id rfl
theorem ty_aggr {a b c d e} : (Ty.mk a b c d e).agg = d := _root_.id rfl
theorem ty_kind {a b c d e} : (Ty.mk a b c d e).k = e := _root_.id rfl
theorem retQ_ret {P rs K ρ H} : retQ P rs K .ret ρ H = ∃ vs, ress P ρ H rs = some vs ∧ K (tupM vs) H := _root_.id rfl
theorem retQ_normal {P rs K ρ H} : retQ P rs K .normal ρ H = ∃ vs, ress P ρ H rs = some vs ∧ K (tupM vs) H := _root_.id rfl
theorem ress_nil {P ρ H} : ress P ρ H [] = some [] := _root_.id rfl
theorem ress_cons {P ρ H r rs} : ress P ρ H (r :: rs) = match resV P ρ H r, ress P ρ H rs with
    | some v, some vs => some (v :: vs)
    | _, _ => none := _root_.id rfl
theorem resV_tmp {P ρ H t} : resV P ρ H (.tmp t) = some (ρ t) := _root_.id rfl
theorem resV_cell {P ρ H a t} : resV P ρ H (.cell a t) = loadV P t (ρ a) H := _root_.id rfl
theorem tupM_1 {v} : tupM [v] = v := _root_.id rfl
theorem tupM_0 : tupM [] = .tup [] := _root_.id rfl
theorem tupM_2 {u v l} : tupM (u :: v :: l) = .tup (u :: v :: l) := _root_.id rfl
theorem sliceV_eq {esz x l h} : sliceV esz x l h = match x with
  | .slice p o n c z =>
    if z = esz then
      match h, l with
      | none, none => some x
      | none, some (.lit (.int _ i)) => if 0 ≤ i ∧ i ≤ n then some (.slice p (if c = i.toNat then o else o + i.toNat * z) (n - i.toNat) (c - i.toNat) z) else none
      | some (.lit (.int _ j)), none => if 0 ≤ j ∧ j ≤ n then some (.slice p o j.toNat c z) else none
      | some (.lit (.int _ j)), some (.lit (.int _ i)) => if 0 ≤ i ∧ i ≤ j ∧ j ≤ n then some (.slice p (if c = i.toNat then o else o + i.toNat * z) (j.toNat - i.toNat) (c - i.toNat) z) else none
      | _, _ => none
    else none
  | _ => none := _root_.id rfl
end Go.Proofs.YtcikcinkjbbnhaaDoor.M

/- The small machine, eighteenth part: what a function leaves behind and nobody can reach is forgotten. -/
set_option linter.unusedSimpArgs false
set_option linter.unusedVariables false
namespace Go.Proofs.YtcikcinkjbbnhaaDoor.M
open Go

mutual
/-- All that a value leads to lies below n, or is among ps. -/
def Cl (n : Nat) (ps : List Nat) : MV → Prop
  | .lit _ => True
  | .ptr p _ => p < n ∨ p ∈ ps
  | .slice p _ _ _ _ => p < n ∨ p ∈ ps
  | .agg vs => Cls' n ps vs
  | .tup vs => Cls' n ps vs
  | .fn _ a b => Cls' n ps a ∧ Cls' n ps b
def Cls' (n : Nat) (ps : List Nat) : List MV → Prop
  | [] => True
  | v :: vs => Cl n ps v ∧ Cls' n ps vs
end

mutual
def ren (π : Nat → Nat) : MV → MV
  | .lit v => .lit v
  | .ptr p o => .ptr (π p) o
  | .slice p o n c z => .slice (π p) o n c z
  | .agg vs => .agg (rens π vs)
  | .tup vs => .tup (rens π vs)
  | .fn f a b => .fn f (rens π a) (rens π b)
def rens (π : Nat → Nat) : List MV → List MV
  | [] => []
  | v :: vs => ren π v :: rens π vs
end

theorem rens_map (π : Nat → Nat) : ∀ vs, rens π vs = vs.map (ren π)
  | [] => by simp [rens]
  | v :: vs => by simp [rens, rens_map π vs]
theorem cls_iff {n ps} : ∀ {vs}, Cls' n ps vs ↔ ∀ v ∈ vs, Cl n ps v
  | [] => by simp [Cls']
  | v :: vs => by simp [Cls', cls_iff (vs := vs)]

/-- Kept objects get the next numbers. -/
def keep (n : Nat) (ps : List Nat) (p : Nat) : Nat := if p < n then p else n + ps.idxOf p

mutual
theorem ren_conc {n : Nat} {ps : List Nat} {π : Nat → Nat} {μ μ' : Mu} (h : ∀ p l, (p < n ∨ p ∈ ps) → μ p = some l → μ' (π p) = some l) : ∀ v, Cl n ps v → Ok μ v → Ok μ' (ren π v) ∧ conc μ' (ren π v) = conc μ v
  | .lit _, _, _ => by simp [ren, Ok, conc]
  | .ptr p o, hc, hv => by
    obtain ⟨l, hl⟩ := by simpa [Ok] using hv
    have := h p l (by simpa [Cl] using hc) hl
    simp [ren, Ok, conc, loc, hl, this]
  | .slice p o n' c z, hc, hv => by
    obtain ⟨hn, l, hl, he⟩ := by simpa [Ok] using hv
    have := h p l (by simpa [Cl] using hc) hl
    simp [ren, Ok, conc, loc, hl, this, hn, he]
  | .agg vs, hc, hv => by
    have := rens_conc h vs (by simpa [Cl] using hc) (by simpa [Ok] using hv)
    simp [ren, Ok, conc, this.1, this.2]
  | .tup vs, hc, hv => by
    have := rens_conc h vs (by simpa [Cl] using hc) (by simpa [Ok] using hv)
    simp [ren, Ok, conc, this.1, this.2]
  | .fn f a b, hc, hv => by
    have hv : Oks μ a ∧ Oks μ b := by simpa [Ok] using hv
    have hc : Cls' n ps a ∧ Cls' n ps b := by simpa [Cl] using hc
    have h1 := rens_conc h a hc.1 hv.1
    have h2 := rens_conc h b hc.2 hv.2
    simp [ren, Ok, conc, h1.1, h1.2, h2.1, h2.2]
theorem rens_conc {n : Nat} {ps : List Nat} {π : Nat → Nat} {μ μ' : Mu} (h : ∀ p l, (p < n ∨ p ∈ ps) → μ p = some l → μ' (π p) = some l) : ∀ vs, Cls' n ps vs → Oks μ vs → Oks μ' (rens π vs) ∧ concs μ' (rens π vs) = concs μ vs
  | [], _, _ => by simp [rens, Oks, concs]
  | v :: vs, hc, hv => by
    have hv : Ok μ v ∧ Oks μ vs := by simpa [Oks] using hv
    have hc : Cl n ps v ∧ Cls' n ps vs := by simpa [Cls'] using hc
    have h1 := ren_conc h v hc.1 hv.1
    have h2 := rens_conc h vs hc.2 hv.2
    simp [rens, Oks, concs, h1.1, h1.2, h2.1, h2.2]
end

mutual
theorem ren_id : ∀ v, ren id v = v
  | .lit _ => by simp [ren]
  | .ptr .. => by simp [ren]
  | .slice .. => by simp [ren]
  | .agg vs => by simp [ren, rens_id vs]
  | .tup vs => by simp [ren, rens_id vs]
  | .fn f a b => by simp [ren, rens_id a, rens_id b]
theorem rens_id : ∀ vs, rens id vs = vs
  | [] => by simp [rens]
  | v :: vs => by simp [rens, ren_id v, rens_id vs]
end

def keptO (n : Nat) (ps : List Nat) (H1 : MH) (p : Nat) : Option MO := (hget H1 p).map fun o => ⟨o.cells.map (ren (keep n ps)), o.rw⟩

mutual
theorem cl_mono {n m : Nat} (h : n ≤ m) : ∀ v, Cl n [] v → Cl m [] v
  | .lit _, _ => by simp [Cl]
  | .ptr p o, hc => by simp [Cl] at hc ⊢; omega
  | .slice .., hc => by simp [Cl] at hc ⊢; omega
  | .agg vs, hc => by simp only [Cl] at hc ⊢; exact cls_mono h vs hc
  | .tup vs, hc => by simp only [Cl] at hc ⊢; exact cls_mono h vs hc
  | .fn f a b, hc => by simp only [Cl] at hc ⊢; exact ⟨cls_mono h a hc.1, cls_mono h b hc.2⟩
theorem cls_mono {n m : Nat} (h : n ≤ m) : ∀ vs, Cls' n [] vs → Cls' m [] vs
  | [], _ => by simp [Cls']
  | v :: vs, hc => by simp only [Cls'] at hc ⊢; exact ⟨cl_mono h v hc.1, cls_mono h vs hc.2⟩
end
mutual
theorem ren_free {π : Nat → Nat} : ∀ v, Cl 0 [] v → ren π v = v
  | .lit _, _ => by simp [ren]
  | .ptr p o, hc => by simp [Cl] at hc
  | .slice .., hc => by simp [Cl] at hc
  | .agg vs, hc => by simp only [Cl] at hc; simp [ren, rens_free vs hc]
  | .tup vs, hc => by simp only [Cl] at hc; simp [ren, rens_free vs hc]
  | .fn f a b, hc => by simp only [Cl] at hc; simp [ren, rens_free a hc.1, rens_free b hc.2]
theorem rens_free {π : Nat → Nat} : ∀ vs, Cls' 0 [] vs → rens π vs = vs
  | [], _ => by simp [rens]
  | v :: vs, hc => by simp only [Cls'] at hc; simp [rens, ren_free v hc.1, rens_free vs hc.2]
end

mutual
theorem ok_free {μ : Mu} : ∀ v, Cl 0 [] v → Ok μ v
  | .lit _, _ => by simp [Ok]
  | .ptr p o, hc => by simp [Cl] at hc
  | .slice .., hc => by simp [Cl] at hc
  | .agg vs, hc => by simp only [Cl] at hc; simp [Ok, oks_free vs hc]
  | .tup vs, hc => by simp only [Cl] at hc; simp [Ok, oks_free vs hc]
  | .fn f a b, hc => by simp only [Cl] at hc; simp [Ok, oks_free a hc.1, oks_free b hc.2]
theorem oks_free {μ : Mu} : ∀ vs, Cls' 0 [] vs → Oks μ vs
  | [], _ => by simp [Oks]
  | v :: vs, hc => by simp only [Cls'] at hc; simp [Oks, ok_free v hc.1, oks_free vs hc.2]
end
theorem cl_lit {n ps v} : Cl n ps (.lit v) = True := by simp [Cl]
theorem cl_agg {n ps vs} : Cl n ps (.agg vs) = Cls' n ps vs := by simp [Cl]
theorem cl_tup {n ps vs} : Cl n ps (.tup vs) = Cls' n ps vs := by simp [Cl]
theorem cl_ptr {n ps p o} : Cl n ps (.ptr p o) = (p < n ∨ p ∈ ps) := by simp [Cl]
theorem cl_slice {n ps p o a b c} : Cl n ps (.slice p o a b c) = (p < n ∨ p ∈ ps) := by simp [Cl]
theorem cls_nil {n ps} : Cls' n ps [] = True := by simp [Cls']
theorem cls_cons {n ps v vs} : Cls' n ps (v :: vs) = (Cl n ps v ∧ Cls' n ps vs) := by simp [Cls']
theorem ren_lit {π v} : ren π (.lit v) = .lit v := by simp [ren]
theorem ren_agg {π vs} : ren π (.agg vs) = .agg (rens π vs) := by simp [ren]
theorem ren_tup {π vs} : ren π (.tup vs) = .tup (rens π vs) := by simp [ren]
theorem ren_slice {π p o n c z} : ren π (.slice p o n c z) = .slice (π p) o n c z := by simp [ren]
theorem ren_ptr {π p o} : ren π (.ptr p o) = .ptr (π p) o := by simp [ren]
theorem rens_nil' {π} : rens π [] = [] := by simp [rens]
theorem rens_cons' {π v vs} : rens π (v :: vs) = ren π v :: rens π vs := by simp [rens]

theorem Spec.gc {P : Program} {f : FuncId} {args : List MV} {H : MH} {K K1 : MV → MH → Prop} (h : Spec P f args H K1)
    (hk : ∀ v H1, K1 v H1 → ∃ (Hm junk : MH) (ps : List Nat), H1 = Hm ++ junk ∧ Hm.length = H.length ∧ ps.Nodup ∧ (∀ p ∈ ps, H.length ≤ p) ∧
      (∀ p o, hget Hm p = some o → hget H p = some o ∨ ∀ c ∈ o.cells, Cl 0 [] c) ∧ (∀ p ∈ ps, ∀ o, hget H1 p = some o → ∀ c ∈ o.cells, Cl H.length ps c) ∧ Cl H.length ps v ∧
      K (ren (keep H.length ps) v) (Hm ++ ps.map (keptO H.length ps H1))) : Spec P f args H K := by
  intro μ w hr hb ha
  refine (h μ w hr hb ha).mono fun x w' ⟨v, H1, μ1, hk1, hx, hok, hr1, he1⟩ => ?_
  obtain ⟨Hm, junk, ps, rfl, hlen, hnd, hps, hold, hnew, hcl, hK⟩ := hk v H1 hk1
  let n := H.length
  let μ' : Mu := fun q => if q < n then μ q else match ps[q - n]? with
    | some p => μ1 p
    | none => none
  have hμ1 : ∀ p l, p < n → μ1 p = some l → μ p = some l := fun p l hp hl => by
    rcases he1.new p l hl with h1 | h1
    · exact h1
    · exact absurd hp (Nat.not_lt.2 h1)
  have hren : ∀ p l, (p < n ∨ p ∈ ps) → μ1 p = some l → μ' (keep n ps p) = some l := by
    intro p l hp hl
    by_cases hlt : p < n
    · simp only [keep, if_pos hlt, μ']
      exact hμ1 p l hlt hl
    · have hm := hp.resolve_left hlt
      have hi : ps.idxOf p < ps.length := List.idxOf_lt_length_of_mem hm
      simp only [keep, if_neg hlt, μ']
      rw [if_neg (by omega)]
      have : n + ps.idxOf p - n = ps.idxOf p := by omega
      rw [this, List.getElem?_eq_getElem hi, List.getElem_idxOf hi]
      exact hl
  have hv := ren_conc hren v hcl hok
  refine ⟨ren (keep n ps) v, Hm ++ ps.map (keptO n ps (Hm ++ junk)), μ', hK, by rw [hv.2]; exact hx, hv.1, ?_, ?_⟩
  case refine_1 =>
    have hget' : ∀ q o, hget (Hm ++ ps.map (keptO n ps (Hm ++ junk))) q = some o → (q < n ∧ hget Hm q = some o) ∨ ∃ j p o1, q = n + j ∧ ps[j]? = some p ∧ hget (Hm ++ junk) p = some o1 ∧ o = ⟨o1.cells.map (ren (keep n ps)), o1.rw⟩ := by
      intro q o hq
      unfold hget at hq
      by_cases hlt : q < n
      · left
        rw [List.getElem?_append_left (by omega)] at hq
        exact ⟨hlt, hq⟩
      · right
        rw [List.getElem?_append_right (by omega), List.getElem?_map] at hq
        cases hj : ps[q - Hm.length]? with
        | none => rw [hj] at hq; simp at hq
        | some p =>
          rw [hj] at hq
          simp only [Option.map_some, Option.join_some, keptO, Option.map_eq_some_iff] at hq
          obtain ⟨o1, h1, h2⟩ := hq
          exact ⟨q - Hm.length, p, o1, by omega, hj, h1, h2.symm⟩
    have hloc : ∀ q l, μ' q = some l → (q < n ∧ μ q = some l ∧ μ1 q = some l) ∨ ∃ j p, q = n + j ∧ ps[j]? = some p ∧ μ1 p = some l := by
      intro q l hq
      simp only [μ'] at hq
      split at hq
      · rename_i hlt; exact .inl ⟨hlt, hq, he1.mono q l hq⟩
      · rename_i hge
        split at hq
        · rename_i p hp; exact .inr ⟨q - n, p, by omega, hp, hq⟩
        · cases hq
    have hHm : ∀ q o, q < n → hget Hm q = some o → hget (Hm ++ junk) q = some o := fun q o hq ho => by
      unfold hget at ho ⊢
      rw [List.getElem?_append_left (by omega)]
      exact ho
    have hobj : ∀ q l o, μ' q = some l → hget (Hm ++ ps.map (keptO n ps (Hm ++ junk))) q = some o → ∃ p o1, μ1 p = some l ∧ hget (Hm ++ junk) p = some o1 ∧ o1.rw = o.rw ∧ ((q < n ∧ p = q) ∨ ∃ j, q = n + j ∧ ps[j]? = some p) ∧ ObjAt μ' w' l o := by
      intro q l o hq ho
      rcases hget' q o ho with ⟨hlt, ho'⟩ | ⟨j, p, o1, hqj, hp, ho1, rfl⟩
      · rcases hloc q l hq with ⟨_, hμq, hμ1q⟩ | ⟨j, p, hqj, _, _⟩
        · refine ⟨q, o, hμ1q, hHm q o hlt ho', rfl, .inl ⟨hlt, rfl⟩, ?_⟩
          obtain ⟨cs, t, fz, h1, h2, h3, h5, h6⟩ := hr1.obj q l o hμ1q (hHm q o hlt ho')
          refine ⟨cs, t, fz, h1, h2, h3, h5, fun i c hc => ?_⟩
          obtain ⟨hc1, hc2⟩ := h6 i c hc
          have hcm : c ∈ o.cells := List.mem_of_getElem? hc
          rcases hold q o ho' with hH | hfree
          · obtain ⟨_, _, _, _, _, _, _, h7⟩ := hr.obj q l o hμq hH
            have hokμ := (h7 i c hc).1
            have hle : Mle μ μ' := fun p l' hp => by
              have := hr.bound p l' hp
              simp only [μ']
              rw [if_pos this]
              exact hp
            have e1 := ok_mono hle c hokμ
            have e2 := ok_mono he1.mono c hokμ
            exact ⟨e1.1, by rw [e1.2, ← e2.2]; exact hc2⟩
          · have hany : ∀ p l', (p < 0 ∨ p ∈ ([] : List Nat)) → μ1 p = some l' → μ' (id p) = some l' := fun p l' hp => by simp at hp
            have e1 := ren_conc (π := id) hany c (hfree c hcm) hc1
            rw [ren_id] at e1
            exact ⟨e1.1, by rw [e1.2]; exact hc2⟩
        · omega
      · rcases hloc q l hq with ⟨hlt, _, _⟩ | ⟨j', p', hqj', hp', hμp⟩
        · omega
        · have : j' = j := by omega
          subst this
          rw [hp] at hp'; cases hp'
          have hpm : p ∈ ps := List.mem_of_getElem? hp
          refine ⟨p, o1, hμp, ho1, rfl, .inr ⟨j', hqj', hp⟩, ?_⟩
          obtain ⟨cs, t, fz, h1, h2, h3, h5, h6⟩ := hr1.obj p l o1 hμp ho1
          refine ⟨cs, t, fz, h1, h2, by simpa using h3, h5, fun i c hc => ?_⟩
          simp only [List.getElem?_map, Option.map_eq_some_iff] at hc
          obtain ⟨c0, hc0, rfl⟩ := hc
          obtain ⟨hc1, hc2⟩ := h6 i c0 hc0
          have e1 := ren_conc hren c0 (hnew p hpm o1 ho1 c0 (List.mem_of_getElem? hc0)) hc1
          exact ⟨e1.1, by rw [e1.2]; exact hc2⟩
    refine ⟨fun q l hq => ?_, fun q l o hq ho => ?_, fun q r l1 l2 o1 o2 hq hr2 h1 h2 hrw hne => ?_⟩
    · simp only [List.length_append, List.length_map]
      rcases hloc q l hq with ⟨hlt, _, _⟩ | ⟨j, p, hqj, hp, _⟩
      · omega
      · have := (List.getElem?_eq_some_iff.1 hp).1
        omega
    · obtain ⟨_, _, _, _, _, _, h⟩ := hobj q l o hq ho
      exact h
    · obtain ⟨p1, u1, a1, a2, a3, a4, _⟩ := hobj q l1 o1 hq h1
      obtain ⟨p2, u2, b1, b2, b3, b4, _⟩ := hobj r l2 o2 hr2 h2
      refine hr1.inj p1 p2 l1 l2 u1 u2 a1 b1 a2 b2 (by rw [a3]; exact hrw) ?_
      rintro rfl
      rcases a4 with ⟨h3, rfl⟩ | ⟨j, h3, h4⟩
      · rcases b4 with ⟨h5, h6⟩ | ⟨j', h5, h6⟩
        · exact hne h6
        · have := hps _ (List.mem_of_getElem? h6)
          omega
      · rcases b4 with ⟨h5, h6⟩ | ⟨j', h5, h6⟩
        · have := hps _ (List.mem_of_getElem? h4)
          omega
        · have hj := (List.getElem?_eq_some_iff.1 h4)
          have hj' := (List.getElem?_eq_some_iff.1 h6)
          obtain ⟨l1', e1⟩ := hj
          obtain ⟨l2', e2⟩ := hj'
          have h7 := List.Nodup.idxOf_getElem hnd j l1'
          have h8 := List.Nodup.idxOf_getElem hnd j' l2'
          rw [e1] at h7
          rw [e2] at h8
          omega
  case refine_2 =>
    refine ⟨fun p l hp => ?_, fun p l hp => ?_, by simp; omega, he1.size, fun b hb hlt => ?_, he1.frame, he1.same⟩
    · have := hr.bound p l hp
      simp only [μ']
      rw [if_pos this]; exact hp
    · simp only [μ'] at hp
      split at hp
      · exact .inl hp
      · exact .inr (by omega)
    · obtain ⟨q, l, o, hq, ho, hrw, hbb⟩ := hb
      refine he1.owned b ?_ hlt
      unfold hget at ho
      simp only [μ'] at hq
      split at hq
      · rename_i hql
        rw [List.getElem?_append_left (by omega)] at ho
        refine ⟨q, l, o, he1.mono q l hq, ?_, hrw, hbb⟩
        unfold hget
        rw [List.getElem?_append_left (by omega)]
        exact ho
      · rename_i hql
        split at hq
        · rename_i p hp
          rw [List.getElem?_append_right (by omega), List.getElem?_map] at ho
          have : ps[q - Hm.length]? = some p := by rw [hlen]; exact hp
          rw [this] at ho
          simp only [Option.map_some, Option.join_some, keptO, Option.map_eq_some_iff] at ho
          obtain ⟨o1, h1, rfl⟩ := ho
          exact ⟨p, l, o1, hq, h1, hrw, hbb⟩
        · cases hq

/-- A function that leaves nothing behind: whatever it laid is forgotten. -/
theorem Spec.scalar {P : Program} {f : FuncId} {args : List MV} {H : MH} {r : MV} (h : Spec P f args H fun v H' => (∃ junk, H' = H ++ junk) ∧ Cl 0 [] v ∧ v = r) : Spec P f args H fun v H' => v = r ∧ H' = H := by
  refine Spec.gc h ?_
  rintro v H1 ⟨⟨junk, rfl⟩, hcl, rfl⟩
  refine ⟨H, junk, [], rfl, rfl, List.nodup_nil, by simp, fun p o ho => .inl ho, by simp, cl_mono (Nat.zero_le _) v hcl, ?_, by simp⟩
  exact ren_free v hcl

end Go.Proofs.YtcikcinkjbbnhaaDoor.M
