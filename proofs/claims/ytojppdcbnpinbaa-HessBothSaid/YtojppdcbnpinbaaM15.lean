/- The small machine, fifteenth part: whole bodies, and functions. -/
import Derived.Test.YtojppdcbnpinbaaM14
set_option linter.unusedSimpArgs false
set_option linter.unusedVariables false
namespace Go.Proofs.Ytojppdcbnpinbaa.M
open Go

inductive ME where
  | normal
  | exit (id : Nat)
  | ret

def ME.ex : ME → Exit
  | .normal => .normal
  | .exit id => .exit id
  | .ret => .ret

abbrev MQ := ME → Env → MH → Prop

def thenQ (y : MQ → Env → MH → Prop) (Q : MQ) : MQ
  | .normal, ρ, H => y Q ρ H
  | e, ρ, H => Q e ρ H

def blockQ (id : Nat) (Q : MQ) : MQ
  | .exit i, ρ, H => if i = id then Q .normal ρ H else Q (.exit i) ρ H
  | e, ρ, H => Q e ρ H

def loopN (f : MQ → Env → MH → Prop) (Q : MQ) : Nat → Env → MH → Prop
  | 0, _, _ => False
  | n + 1, ρ, H => f (thenQ (fun _ ρ H => loopN f Q n ρ H) Q) ρ H

/-- An operation as the small walk sees it: its number, what must be held behind it, is it held itself, its slot, what it does, what it waits to hear. -/
structure Stp where
  i : Nat
  L : List Nat
  r : Bool
  d : Option Tmp
  op : Op
  g : Option (Option Tmp × Bool)

inductive HF where
  | load (t : TypeId) (x v : MV)
  | obj (p : Nat) (cs : List MV)

def HF.sem (P : Program) : HF → MH → Prop
  | .load t x v, H => loadV P t x H = some v
  | .obj p cs, H => hget H p = some ⟨cs, true⟩

def wantS (g : Option (Option Tmp × Bool)) (ρ : Env) : Bool := match g with
  | none => true
  | some (some d, w) => asB (ρ d) == some w
  | some (none, _) => false

def mkG (full : List Oper) (o : Oper) : Option (Option Tmp × Bool) := match o.guard with
  | none => none
  | some (j, w) => some ((full[j]?).bind (·.dst), w)

theorem want_mk {full : List Oper} {o : Oper} {ρ : Env} : wantS (mkG full o) ρ = wantedM full o ρ := by
  unfold mkG wantedM
  cases o.guard with
  | none => rfl
  | some jw =>
    obtain ⟨j, w⟩ := jw
    simp only
    cases (full[j]?).bind (·.dst) <;> rfl

def addr (o : Op) (ρ : Env) : TypeId × MV := match o with
  | .load t x => (t, ev ρ x)
  | _ => (0, .lit undef)

def hold (r : Bool) (x : Nat × HF) (F : List (Nat × HF)) : List (Nat × HF) := match r with
  | true => x :: F
  | false => F

def held (P : Program) (L : List Nat) (H : MH) : List (Nat × HF) → Prop
  | [] => True
  | x :: F => (x.1 ∈ L → x.2.sem P H) ∧ held P L H F

theorem held_iff {P : Program} {L : List Nat} {H : MH} : ∀ {F : List (Nat × HF)}, held P L H F → ∀ x ∈ F, x.1 ∈ L → x.2.sem P H
  | [], _, x, hx, _ => by cases hx
  | y :: F, h, x, hx, hl => by
    rcases List.mem_cons.1 hx with rfl | hx
    · exact h.1 hl
    · exact held_iff h.2 x hx hl

def rM (P : Program) : List Stp → List (Nat × HF) → Env → MH → (Env → MH → Prop) → Prop
  | [], F, ρ, H, K => K ρ H
  | s :: rest, F, ρ, H, K =>
    if wantS s.g ρ = true then
      match cls s.op with
      | .pure => (pureV P s.op ρ).isSome = true ∧ rM P rest F (put ρ s.d ((pureV P s.op ρ).getD default)) H K
      | .load => (loadO P s.op ρ H).isSome = true ∧ rM P rest (hold s.r (s.i, .load (addr s.op ρ).1 (addr s.op ρ).2 ((loadO P s.op ρ H).getD default)) F) (put ρ s.d ((loadO P s.op ρ H).getD default)) H K
      | .alloc => (allocV P s.op ρ).isSome = true ∧ rM P rest (hold s.r (s.i, .obj H.length ((allocV P s.op ρ).getD default).1) F) (put ρ s.d (((allocV P s.op ρ).getD default).2 H.length)) (H ++ [some ⟨((allocV P s.op ρ).getD default).1, true⟩]) K
      | .eff => effM P s.op ρ H fun v H' => held P s.L H' F ∧ rM P rest F (put ρ s.d v) H' K
    else rM P rest F (put ρ s.d (.lit undef)) H K

def stps (full : List Oper) : List Oper → List Stp
  | [] => []
  | o :: l => ⟨0, [], false, o.dst, o.op, mkG full o⟩ :: stps full l

def vstps (ops : Array Oper) (R : List Nat) : List (Nat × List Nat) → List Stp
  | [] => []
  | (i, L) :: l => ⟨i, L, R.contains i, (ops.getD i default).dst, (ops.getD i default).op, mkG ops.toList (ops.getD i default)⟩ :: vstps ops R l

theorem isSome_getD {α : Type} {x : Option α} {d : α} (h : x.isSome = true) : x = some (x.getD d) := by
  cases x with
  | none => cases h
  | some a => rfl

theorem rM_mops {P : Program} {full : List Oper} : ∀ (l : List Oper) (F : List (Nat × HF)) (ρ : Env) (H : MH) (K : Env → MH → Prop), rM P (stps full l) F ρ H K → mops P full l ρ H K
  | [], _, _, _, _, h => h
  | o :: l, F, ρ, H, K, h => by
    simp only [stps, rM, want_mk] at h
    simp only [mops]
    split at h
    · rename_i hw
      rw [if_pos hw]
      unfold stepM
      split at h
      · rename_i hc; rw [hc]; exact ⟨_, isSome_getD h.1, rM_mops l _ _ _ _ h.2⟩
      · rename_i hc; rw [hc]; exact ⟨_, isSome_getD h.1, rM_mops l _ _ _ _ h.2⟩
      · rename_i hc
        rw [hc]
        exact ⟨_, _, isSome_getD (d := default) h.1, rM_mops l _ _ _ _ h.2⟩
      · rename_i hc
        rw [hc]
        exact effM_mono (fun v H' hk => rM_mops l _ _ _ _ hk.2) h
    · rename_i hw
      rw [if_neg hw]
      exact rM_mops l _ _ _ _ h

theorem rM_vM {P : Program} {ops : Array Oper} {R : List Nat} : ∀ (l : List (Nat × List Nat)) (F : List (Nat × HF)) (G : List (Nat × (MH → Prop))) (ρ : Env) (H : MH) (K : Env → MH → Prop),
    (∀ x ∈ l, x.1 < ops.size) → (∀ x ∈ l, ∀ j ∈ x.2, j ∈ R) → (∀ x ∈ G, x.1 ∈ R → ∃ y ∈ F, y.1 = x.1 ∧ ∀ H, y.2.sem P H → x.2 H) → rM P (vstps ops R l) F ρ H K → vM P ops l G ρ H K
  | [], _, _, _, _, _, _, _, _, h => h
  | (i, L) :: l, F, G, ρ, H, K, hb, hR, hG, h => by
    have hi : i < ops.size := hb (i, L) (List.mem_cons_self ..)
    have ho : ops[i]? = some (ops.getD i default) := by simp [Array.getD_eq_getD_getElem?, hi]
    have hb' := fun x hx => hb x (List.mem_cons_of_mem _ hx)
    have hR' := fun x hx => hR x (List.mem_cons_of_mem _ hx)
    simp only [vstps, rM, want_mk] at h
    obtain ⟨o, hoeq⟩ : ∃ o, ops.getD i default = o := ⟨_, rfl⟩
    simp only [hoeq] at h ho
    simp only [vM, ho]
    have hcons : ∀ (x : Nat × HF) (y : Nat × (MH → Prop)), y.1 = i → (x.1 = i) → (∀ H, x.2.sem P H → y.2 H) → ∀ z ∈ y :: G, z.1 ∈ R → ∃ u ∈ hold (R.contains i) x F, u.1 = z.1 ∧ ∀ H, u.2.sem P H → z.2 H := by
      intro x y hy hx hxy z hz hzR
      rcases List.mem_cons.1 hz with rfl | hz
      · have : R.contains i = true := by rw [hy] at hzR; simpa using hzR
        rw [this]
        exact ⟨x, List.mem_cons_self .., by rw [hx, hy], hxy⟩
      · obtain ⟨u, hu, h1, h2⟩ := hG z hz hzR
        refine ⟨u, ?_, h1, h2⟩
        unfold hold
        split
        · exact List.mem_cons_of_mem _ hu
        · exact hu
    split at h
    · rename_i hw
      rw [if_pos hw]
      split at h
      · rename_i hc; rw [hc]; exact ⟨_, isSome_getD h.1, rM_vM l _ G _ _ _ hb' hR' hG h.2⟩
      · rename_i hc
        rw [hc]
        refine ⟨_, isSome_getD h.1, rM_vM l _ _ _ _ _ hb' hR' (hcons _ _ rfl rfl fun H' hs => ?_) h.2⟩
        have h1 := h.1
        unfold loadO at h1 hs ⊢
        revert hs h1
        cases hop : o.op <;> first | (simp [HF.sem, addr]; done) | (simp only [HF.sem, addr]; exact fun h _ => h)
      · rename_i hc
        rw [hc]
        obtain ⟨⟨cs, f⟩, hal⟩ := Option.isSome_iff_exists.1 h.1
        rw [hal] at h
        exact ⟨cs, f, hal, rM_vM l _ _ _ _ _ hb' hR' (hcons (i, .obj H.length cs) _ rfl rfl fun H' hs => hs) h.2⟩
      · rename_i hc
        rw [hc]
        refine effM_mono (fun v H' hk => ⟨fun x hx hl => ?_, rM_vM l _ G _ _ _ hb' hR' hG hk.2⟩) h
        obtain ⟨y, hy, h1, h2⟩ := hG x hx (hR (i, L) (List.mem_cons_self ..) _ hl)
        exact h2 H' (held_iff hk.1 y hy (by rw [h1]; exact hl))
    · rename_i hw
      rw [if_neg hw]
      exact rM_vM l _ G _ _ _ hb' hR' hG h

/-- The order pl may be walked, what is to be held is among R. -/
def vokR (ops : Array Oper) (pl : List (Nat × List Nat)) (R : List Nat) : Bool := vok ops pl && pl.all (fun x => x.1 < ops.size && x.2.all (R.contains ·))

def mwp (P : Program) : Code → MQ → Env → MH → Prop
  | .skip, Q, ρ, H => Q .normal ρ H
  | .region _ ops false, Q, ρ, H => rM P (stps ops.toList ops.toList) [] ρ H (Q .normal)
  | .region _ ops true, Q, ρ, H => ∃ pl R, vokR ops pl R = true ∧ rM P (vstps ops R pl) [] ρ H (Q .normal)
  | .seq x y, Q, ρ, H => mwp P x (thenQ (mwp P y) Q) ρ H
  | .cond c x y, Q, ρ, H => ∃ b, asB (ev ρ c) = some b ∧ (b = true → mwp P x Q ρ H) ∧ (b = false → mwp P y Q ρ H)
  | .block id x, Q, ρ, H => mwp P x (blockQ id Q) ρ H
  | .loop x, Q, ρ, H => ∃ n, loopN (mwp P x) Q n ρ H
  | .exit id, Q, ρ, H => Q (.exit id) ρ H
  | .ret, Q, ρ, H => Q .ret ρ H
  | _, _, _, _ => False

def codeOk (N : Nat) : Code → Bool
  | .region _ ops _ => opsOk N ops.toList
  | .seq x y => codeOk N x && codeOk N y
  | .cond _ x y => codeOk N x && codeOk N y
  | .block _ x => codeOk N x
  | .loop x => codeOk N x
  | _ => true

section
variable {P : Program} {N : Nat} {μ0 : Mu} {H0 : MH} {w0 : World}

/-- What the small walk's end is, for the real one. -/
def R (N : Nat) (μ0 : Mu) (H0 : MH) (w0 : World) (Q : MQ) : Exit → Act → World → Prop := fun e a w => ∃ m ρ H μ, ME.ex m = e ∧ Q m ρ H ∧ St N μ0 H0 w0 ρ H μ a w

theorem mwp_sound (hm : P.follows .mixedOrders = true) : ∀ (c : Code) (Q : MQ) (ρ : Env) (H : MH) (μ : Mu) (a : Act) (w : World), codeOk N c = true → mwp P c Q ρ H → St N μ0 H0 w0 ρ H μ a w → c.wp P (R N μ0 H0 w0 Q) a w
  | .skip, Q, ρ, H, μ, a, w, _, h, s => wp_skip ⟨.normal, ρ, H, μ, rfl, h, s⟩
  | .region id ops false, Q, ρ, H, μ, a, w, hok, h, s => by
    refine wp_region ?_
    have := mops_sound (P := P) (full := ops) (N := N) (μ0 := μ0) (H0 := H0) (w0 := w0) (K := Q .normal) (Q := R N μ0 H0 w0 Q) (fun ρ H μ a w hk hs => ⟨.normal, ρ, H, μ, rfl, hk, hs⟩) ops.size 0 ρ H μ a w (by omega) (by simpa [codeOk] using hok) (rM_mops _ _ _ _ _ h) s
    rwa [← List.range_eq_range'] at this
  | .region id ops true, Q, ρ, H, μ, a, w, hok, h, s => by
    obtain ⟨pl, R0, hvk, hv⟩ := by simpa only [mwp] using h
    simp only [vokR, Bool.and_eq_true] at hvk
    have hv := rM_vM pl [] [] ρ H _ (fun x hx => by have := List.all_eq_true.1 hvk.2 x hx; simp only [Bool.and_eq_true, decide_eq_true_eq] at this; exact this.1)
      (fun x hx j hj => by have := List.all_eq_true.1 hvk.2 x hx; simp only [Bool.and_eq_true] at this; simpa using List.all_eq_true.1 this.2 j hj) (fun x hx => by cases hx) hv
    exact draw_sound hm hvk.1 hok (fun ρ H μ a w hk hs => ⟨.normal, ρ, H, μ, rfl, hk, hs⟩) hv s
  | .seq x y, Q, ρ, H, μ, a, w, hok, h, s => by
    simp only [codeOk, Bool.and_eq_true] at hok
    simp only [mwp] at h
    refine wp_seq (wp_mono (mwp_sound hm x _ ρ H μ a w hok.1 h s) ?_)
    rintro e a' w' ⟨m, ρ', H', μ', rfl, hq, hs⟩
    cases m with
    | normal => exact mwp_sound hm y Q ρ' H' μ' a' w' hok.2 hq hs
    | exit id => exact ⟨.exit id, ρ', H', μ', rfl, hq, hs⟩
    | ret => exact ⟨.ret, ρ', H', μ', rfl, hq, hs⟩
  | .cond c x y, Q, ρ, H, μ, a, w, hok, h, s => by
    simp only [codeOk, Bool.and_eq_true] at hok
    obtain ⟨b, hb, ht, hf⟩ := by simpa only [mwp] using h
    have hc : a.eval c = .bool b := by rw [← (s.tm.ev c).1]; exact asB_conc.1 hb
    refine wp_cond_split hc (fun hbt => mwp_sound hm x Q ρ H μ a w hok.1 (ht hbt) s) (fun hbf => mwp_sound hm y Q ρ H μ a w hok.2 (hf hbf) s)
  | .block id x, Q, ρ, H, μ, a, w, hok, h, s => by
    simp only [mwp] at h
    refine wp_block (wp_mono (mwp_sound hm x _ ρ H μ a w hok h s) ?_)
    rintro e a' w' ⟨m, ρ', H', μ', rfl, hq, hs⟩
    cases m with
    | normal => exact ⟨.normal, ρ', H', μ', rfl, hq, hs⟩
    | exit i =>
      simp only [blockQ] at hq
      simp only [ME.ex, Exit.inBlock]
      split at hq
      · rename_i he; rw [if_pos he]; exact ⟨.normal, ρ', H', μ', rfl, hq, hs⟩
      · rename_i he; rw [if_neg he]; exact ⟨.exit i, ρ', H', μ', rfl, hq, hs⟩
    | ret => exact ⟨.ret, ρ', H', μ', rfl, hq, hs⟩
  | .loop x, Q, ρ, H, μ, a, w, hok, h, s => by
    obtain ⟨n, hn⟩ := by simpa only [mwp] using h
    refine wp_loop_rounds n ?_
    have key : ∀ (n : Nat) (ρ : Env) (H : MH) (μ : Mu) (a : Act) (w : World), loopN (mwp P x) Q n ρ H → St N μ0 H0 w0 ρ H μ a w → Code.rounds P x (R N μ0 H0 w0 Q) n a w := by
      intro n
      induction n with
      | zero => intro ρ H μ a w h; exact h.elim
      | succ n ih =>
        intro ρ H μ a w h s
        rw [rounds_succ]
        refine wp_mono (mwp_sound hm x _ ρ H μ a w hok h s) ?_
        rintro e a' w' ⟨m, ρ', H', μ', rfl, hq, hs⟩
        cases m with
        | normal => exact ih ρ' H' μ' a' w' hq hs
        | exit id => exact ⟨.exit id, ρ', H', μ', rfl, hq, hs⟩
        | ret => exact ⟨.ret, ρ', H', μ', rfl, hq, hs⟩
    exact key n ρ H μ a w hn s
  | .exit id, Q, ρ, H, μ, a, w, _, h, s => wp_exit ⟨.exit id, ρ, H, μ, rfl, h, s⟩
  | .ret, Q, ρ, H, μ, a, w, _, h, s => wp_ret ⟨.ret, ρ, H, μ, rfl, h, s⟩
  | .rangeFunc .., _, _, _, _, _, _, _, h, _ => h.elim
  | .scope _, _, _, _, _, _, _, _, h, _ => h.elim
  | .label _, _, _, _, _, _, _, _, h, _ => h.elim
  | .goto _, _, _, _, _, _, _, _, h, _ => h.elim
  | .refuse _, _, _, _, _, _, _, _, h, _ => h.elim
end

/-! ### Results -/

def resV (P : Program) (ρ : Env) (H : MH) : ResultVar → Option MV
  | .tmp t => some (ρ t)
  | .cell a t => loadV P t (ρ a) H

def ress (P : Program) (ρ : Env) (H : MH) : List ResultVar → Option (List MV)
  | [] => some []
  | r :: rs => match resV P ρ H r, ress P ρ H rs with
    | some v, some vs => some (v :: vs)
    | _, _ => none

def tupM : List MV → MV
  | [v] => v
  | vs => .tup vs

theorem loadVar_sound {P : Program} {t : TypeId} {x : MV} {H : MH} {v : MV} (h : loadV P t x H = some v) {μ : Mu} {w : World} (hx : Ok μ x) (hr : Rel μ H w) :
    (do loadVar t (← asAddr (conc μ x)) : Sem Value).run P w = .ok (conc μ v) w ∧ Ok μ v := by
  have ht : Tm μ (fun t => if t = 0 then x else .lit undef) { tmps := #[conc μ x], defers := [] } := by
    refine ⟨fun t => ?_, fun t => ?_⟩
    · by_cases h0 : t = 0
      · subst h0; simp
      · simp [h0, conc, Array.getD_eq_getD_getElem?, Array.getElem?_eq_none]
    · split
      · exact hx
      · simp [Ok]
  have := load_sound (x := .tmp 0) (ρ := fun t => if t = 0 then x else .lit undef) (by simpa [ev] using h) ht hr ⟨none, .load t (.tmp 0), 0, "", #[], none⟩ rfl
  refine ⟨?_, this.2⟩
  have hrun := this.1
  unfold loadV at h
  split at h
  · rename_i p o
    obtain ⟨l, hl⟩ := by simpa [Ok] using hx
    simp [execOp, Act.eval, Instr.loadAt, conc, loc_some hl, Instr.sureAddr, asAddr] at hrun ⊢
    cases hq : (loadVar t ⟨l.b, l.off + o, none⟩).run P w with
    | ok a w' => rw [hq] at hrun; simp at hrun; simp [hrun]
    | halt e w' => rw [hq] at hrun; simp at hrun
  · cases h

def resS (tmps : Array Value) : ResultVar → Sem Value
  | .tmp t => pure (tmps.getD t undef)
  | .cell a t => do loadVar t (← asAddr (tmps.getD a undef))

theorem results_eq (fn : Func) (tmps : Array Value) : results fn tmps = (do let vs ← fn.results.mapM (resS tmps); pure (if h : vs.size = 1 then vs[0] else .tuple vs)) := by
  unfold results
  congr 1

theorem ress_sound {P : Program} {ρ : Env} {H : MH} {μ : Mu} {a : Act} {w : World} (ht : Tm μ ρ a) (hr : Rel μ H w) : ∀ (rs : List ResultVar) (vs : List MV), ress P ρ H rs = some vs →
    (rs.mapM (resS a.tmps)).run P w = .ok (concs μ vs) w ∧ Oks μ vs
  | [], vs, h => by
    simp only [ress, Option.some.injEq] at h
    subst h
    simp [concs, Oks]
  | r :: rs, vs, h => by
    simp only [ress] at h
    split at h
    · rename_i v vs' hv hvs
      cases h
      have ih := ress_sound ht hr rs vs' hvs
      have h1 : (resS a.tmps r).run P w = .ok (conc μ v) w ∧ Ok μ v := by
        cases r with
        | tmp t =>
          simp only [resV, Option.some.injEq] at hv
          subst hv
          exact ⟨by simp [resS, ht.val t], ht.ok t⟩
        | cell x t =>
          have := loadVar_sound hv (ht.ok x) hr
          rw [ht.val x] at this
          exact this
      refine ⟨?_, by simp [Oks, h1.2, ih.2]⟩
      rw [List.mapM_cons]
      simp only [Sem.run_bind, h1.1, ih.1, Result.andThen_ok, Sem.run_pure, concs]
    · cases h

theorem results_sound {P : Program} {fn : Func} {ρ : Env} {H : MH} {μ : Mu} {a : Act} {w : World} (ht : Tm μ ρ a) (hr : Rel μ H w) {vs : List MV} (h : ress P ρ H fn.results.toList = some vs) :
    (results fn a.tmps).run P w = .ok (conc μ (tupM vs)) w ∧ Ok μ (tupM vs) := by
  have := ress_sound ht hr fn.results.toList vs h
  refine ⟨?_, ?_⟩
  · rw [results_eq, Array.mapM_eq_mapM_toList]
    simp only [Sem.run_bind, Sem.run_map]
    have h1 := this.1
    rw [h1]
    simp only [Result.andThen_ok, Sem.run_pure]
    congr 1
    match vs with
    | [] => simp [concs, tupM, conc]
    | [v] => simp [concs, tupM]
    | v :: u :: vs => simp [concs, tupM, conc]
  · match vs, this.2 with
    | [], _ => simp [tupM, Ok, Oks]
    | [v], h => simp only [Oks] at h; exact h.1
    | v :: u :: vs, h => simpa [tupM, Ok] using h

def args0 (args : List MV) : Env := fun t => args.getD t (.lit undef)

/-- What a function's body must come to. -/
def retQ (P : Program) (rs : List ResultVar) (K : MV → MH → Prop) : MQ
  | .normal, ρ, H | .ret, ρ, H => ∃ vs, ress P ρ H rs = some vs ∧ K (tupM vs) H
  | _, _, _ => False

theorem spec_of_body {P : Program} (hm : P.follows .mixedOrders = true) {f : FuncId} {fn : Func} {c : Code} (hf : P.funcs[f]? = some fn) (hb : fn.body = some c) (hname : fn.name ≠ "runtime.NumGoroutine") {args : List MV}
    (hn : args.length ≤ fn.ntmps) (hok : codeOk fn.ntmps c = true) {H : MH} {K : MV → MH → Prop} (h : mwp P c (retQ P fn.results.toList K) (args0 args) H) : Spec P f args H K := by
  intro μ w hr ha
  have hcall : (callFunc f (concs μ args).toArray).run P w = .ok (.enter f (concs μ args).toArray) w := by
    simp [callFunc, hf, hname, hb]
  unfold Does
  rw [hcall]
  simp only
  have hlen : (concs μ args).length = args.length := by simp [concs_map]
  refine calls_of_wp hf hb (wp_mono (mwp_sound (N := fn.ntmps) (μ0 := μ) (H0 := H) (w0 := w) hm c _ (args0 args) H μ _ w hok h ⟨⟨fun t => ?_, fun t => ?_⟩, ?_, rfl, hr, Ext.refl _ _ _⟩) ?_)
  · simp only [args0, List.getD_eq_getElem?_getD, Array.getD_eq_getD_getElem?]
    rcases Nat.lt_or_ge t args.length with hlt | hge
    · rw [List.getElem?_eq_getElem hlt, Array.getElem?_append_left (by simpa [hlen] using hlt)]
      simp [concs_map, hlt]
    · rw [List.getElem?_eq_none hge, Array.getElem?_append_right (by simpa [hlen] using hge)]
      simp only [Option.getD_none, conc, Array.getElem?_replicate]
      split <;> rfl
  · simp only [args0, List.getD_eq_getElem?_getD]
    cases hx : args[t]? with
    | none => simp [Ok]
    | some v => exact (oks_iff μ args).1 ha v (List.mem_of_getElem? hx)
  · simp [hlen]; omega
  · rintro e a' w' ⟨m, ρ', H', μ', rfl, hq, hs⟩
    cases m with
    | normal =>
      obtain ⟨vs, hvs, hk⟩ := hq
      have := results_sound (fn := fn) hs.tm hs.rel hvs
      exact ⟨hs.df, _, this.1, tupM vs, H', μ', hk, rfl, this.2, hs.rel, hs.ext⟩
    | ret =>
      obtain ⟨vs, hvs, hk⟩ := hq
      have := results_sound (fn := fn) hs.tm hs.rel hvs
      exact ⟨hs.df, _, this.1, tupM vs, H', μ', hk, rfl, this.2, hs.rel, hs.ext⟩
    | exit id => exact hq.elim

end Go.Proofs.Ytojppdcbnpinbaa.M
