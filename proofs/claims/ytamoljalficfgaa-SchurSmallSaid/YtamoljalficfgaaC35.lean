/- Quotients of patterns. -/
import Derived.Test.YtamoljalficfgaaC34
set_option linter.unusedSimpArgs false
set_option linter.unusedVariables false
set_option maxRecDepth 10000
set_option maxHeartbeats 8000000
namespace Go.Proofs.Ytamoljalficfgaa.M
open Go Go.Proofs

theorem div_ex {a b : Int} (ha : InU a) (hb : InU b) (H : MH) : Spec Try.prog 80 [u64 a, u64 b] H fun v H' => ∃ t : Int × Int, InU t.1 ∧ v = .tup [u64 t.1, u8 t.2] ∧ H' = H := by
  have hbs := bsV_two
  have hm := parts53 ha
  have hn := parts53 hb
  have hmw : InW (0, (partsM a).1) := ⟨zero_in, parts_in ha⟩
  have hnw : InW (0, (partsM b).1) := ⟨zero_in, parts_in hb⟩
  have l1 := wlen53 hm
  have l2 := wlen53 hn
  have s1 : ¬ IntKind.i64.wrap (IntKind.i64.wrap (53 - wlenM (0, (partsM a).1)) + 10) < 0 := by rw [wrap_i64 (n := 53 - wlenM (0, (partsM a).1)) (by omega), wrap_i64 (by omega)]; omega
  have s2 : ¬ IntKind.i64.wrap (64 - wlenM (0, (partsM b).1)) < 0 := by rw [wrap_i64 (by omega)]; omega
  refine Spec.scalarE (G := fun t : Int × Int => InU t.1) (r := fun t : Int × Int => .tup [u64 t.1, u8 t.2]) (enterS Try.func80 [.tmp 4, .tmp 5] ?_)
  repeat' first | (with_reducible (show W _ _ _ _ _); with_reducible refine go2 ?_) | (with_reducible (show W _ _ _ _ _); with_reducible refine sg2 ?_ ?_ <;> intro _) | (with_reducible (show W _ _ _ _ _); with_reducible refine sc2 ?_ ?_ <;> intro _) | (with_reducible (show CallK _ _ _ _ _ _ _ _ _ _ _); with_reducible refine ce2 (nan_spec _ _ slice_new) ?_) | (with_reducible (show CallK _ _ _ _ _ _ _ _ _ _ _); with_reducible refine ce2 (neg_spec _ _) ?_) | (with_reducible (show CallK _ _ _ _ _ _ _ _ _ _ _); with_reducible refine ce2 (kind_spec _ _) ?_) | (with_reducible (show CallK _ _ _ _ _ _ _ _ _ _ _); with_reducible refine ce2 (make_spec _ _ _ _) ?_) | (with_reducible (show CallK _ _ _ _ _ _ _ _ _ _ _); with_reducible refine ce2 (parts_spec _ _) ?_) | (with_reducible (show CallK _ _ _ _ _ _ _ _ _ _ _); with_reducible refine ce2 (wlen_spec (a := (0, _)) hmw _) ?_) | (with_reducible (show CallK _ _ _ _ _ _ _ _ _ _ _); with_reducible refine ce2 (wlen_spec (a := (0, _)) hnw _) ?_) | (with_reducible (show CallK _ _ _ _ _ _ _ _ _ _ _); with_reducible refine ce2 (round_spec _ (w := (0, _)) ⟨zero_in, hq⟩ _ _ _) ?_) | (with_reducible (show W _ _ (.code (.region 18 _ true) :: _) _ _); with_reducible refine W_draw [(0, []), (1, []), (2, []), (3, []), (4, []), (5, []), (6, []), (7, []), (8, []), (9, []), (10, []), (11, [])] [] (by kernel_rfl) ?_) | ((with_reducible (show CallK _ _ _ _ _ _ _ _ _ _ _); with_reducible refine cx2 (wdiv_ex (w := (_, 0)) ⟨shl_inU _ _, zero_in⟩ (shl_inU _ _) _) ?_; rintro u H' ⟨⟨q, r, o⟩, ⟨hq, hr⟩, rfl, rfl⟩))
  all_goals first
    | exact ⟨(_, _), quiet_in, rfl⟩
    | exact ⟨(_, _), make_in _ _ _, rfl⟩
    | exact ⟨(_, _), roundM_in _ _ _ _, rfl⟩
theorem cdiv_ex {a b : Int} (ha : InU a) (hb : InU b) (g : Int) {H : MH} {p : Nat} (hp : hget H p = some ⟨[u8 g], true⟩) : Spec Try.prog 60 [.ptr p 0, u64 a, u64 b] H fun v H' => ∃ t : Int × Int, InU t.1 ∧ v = u64 t.1 ∧ H' = H.set p (some ⟨[u8 t.2], true⟩) := by
  refine enterS Try.func60 [.tmp 6] ?_
  repeat' first | (with_reducible (show W _ _ _ _ _); with_reducible refine go2 ?_) | (with_reducible (show W _ _ _ _ _); with_reducible refine sg2 ?_ ?_ <;> intro _) | (with_reducible (show W _ _ _ _ _); with_reducible refine sc2 ?_ ?_ <;> intro _) | ((with_reducible (show CallK _ _ _ _ _ _ _ _ _ _ _); first | (with_reducible refine cM (note_spec _ _ _ hp) ?_) | (with_reducible refine cx2 (div_ex ha hb _) ?_; rintro u H' ⟨⟨q, f⟩, hq, rfl, rfl⟩)))
  all_goals exact ⟨(q, bits .or .u8 g f), hq, rfl, rfl⟩

/-- What was there is as it was. -/
def Old (H C : MH) : Prop := H.length ≤ C.length ∧ ∀ q, q < H.length → C[q]? = H[q]?
theorem Old.refl (H : MH) : Old H H := ⟨Nat.le_refl _, fun _ _ => rfl⟩
theorem Old.app {H C : MH} (h : Old H C) (L : MH) : Old H (C ++ L) := ⟨by rw [List.length_append]; have := h.1; omega, fun q hq => by have := h.1; rw [List.getElem?_append_left (by omega)]; exact h.2 q hq⟩
theorem Old.setq {H C : MH} (h : Old H C) {q : Nat} (x : Option MO) (hq : H.length ≤ q) : Old H (C.set q x) := ⟨by rw [List.length_set]; exact h.1, fun r hr => by rw [List.getElem?_set_ne (by omega)]; exact h.2 r hr⟩
theorem Old.get {H C : MH} (h : Old H C) {p : Nat} {o : MO} (hp : hget H p = some o) : hget C p = some o := by
  have := lt_of_hget hp
  unfold hget at hp ⊢
  rw [h.2 p this]; exact hp
theorem Old.sl {H C : MH} (h : Old H C) {v : MV} {xs : List Int} (hv : Sl H v xs) : Sl C v xs := by
  rcases hv with ⟨h1, a, h2⟩ | ⟨p, o, c, ob, h1, h2, h3⟩
  · exact .inl ⟨h1, a, h2⟩
  · exact .inr ⟨p, o, c, ob, h1, h.get h2, h3⟩
/-- Of what is new one object is kept, wherever it stands; how the answer looks hangs on what isn't told. -/
theorem Spec.oneX {P : Program} {f : FuncId} {args : List MV} {H : MH} {T : Type} {G : T → Prop} {v : T → Nat → MV} {cs : T → List MV} (hcs : ∀ t, ∀ c ∈ cs t, Cl 0 [] c) (hv : ∀ t p, Cl H.length [p] (v t p)) (hr : ∀ t π p, H.length ≤ p → ren π (v t p) = v t (π p))
    (h : Spec P f args H fun u H' => ∃ t p, G t ∧ u = v t p ∧ H.length ≤ p ∧ hget H' p = some ⟨cs t, true⟩ ∧ Old H H') : Spec P f args H fun u H' => ∃ t, G t ∧ u = v t H.length ∧ H' = H ++ [some ⟨cs t, true⟩] := by
  refine Spec.gc h ?_
  rintro u H1 ⟨t, p, hG, rfl, hp, hg, hold⟩
  have ht : H1.take H.length = H := by
    apply List.ext_getElem?
    intro i
    rw [List.getElem?_take]
    split
    · exact hold.2 i (by assumption)
    · rw [List.getElem?_eq_none (by omega)]
  have he : H1 = H ++ H1.drop H.length := by rw [← ht, List.length_take, Nat.min_eq_left hold.1, List.take_append_drop]
  have hk : keep H.length [p] p = H.length := by
    unfold keep
    rw [if_neg (by omega)]
    simp
  refine ⟨H, H1.drop H.length, [p], he, rfl, by simp, by simp; omega, fun p o ho => .inl ho, ?_, hv _ _, t, hG, ?_, ?_⟩
  · intro x hx o ho c hc
    simp only [List.mem_singleton] at hx
    subst hx
    rw [hg] at ho
    cases ho
    exact cl_more (cl_mono (Nat.zero_le H.length) c (hcs t c hc))
  · rw [hr _ _ _ (by omega), hk]
  · simp only [List.map_cons, List.map_nil, keptO, hg, Option.map_some]
    congr 3
    congr 1
    exact (List.map_congr_left fun c hc => ren_free c (hcs t c hc)).trans (List.map_id' _)
/-- A list that grows, of what a function tells. -/
def Ys (H C : MH) (col : Nat → Int) (m : Nat) (v : MV) : Prop := (m = 0 ∧ v = .lit (.slice none 0 0)) ∨
  ∃ px c, v = .slice px 0 m c 1 ∧ m ≤ c ∧ hget C px = some ⟨((List.range m).map col).map u64, true⟩ ∧ H.length ≤ px
theorem app_ys {P : Program} {Q : MQ} {H C : MH} (hC : Old H C) {col : Nat → Int} {m : Nat} {v : MV} (hx : Ys H C col m v) (hm : m ≤ 10000000) {t : TypeId} (ht : (ty P t).k = .slice 1 8 (some [.int .u64 0]) true)
    {a : Int} (ha : a = col m) {c1 : Nat} {d L l k ρ} (h : ∀ v' C', Old H C' → Ys H C' col (m + 1) v' → W P Q (.run l [] :: k) (put ρ d v') C') :
    AppK P Q (appV P #[t, t] v (.slice C.length 0 1 c1 1) (C ++ [some ⟨[u64 a], true⟩])) (C.length + 1) d L l [] k ρ := by
  subst ha
  have hnew : hget (C ++ [some ⟨[u64 (col m)], true⟩]) C.length = some ⟨[u64 (col m)], true⟩ := hget_append_new
  have htl : tailV 1 (.slice C.length 0 1 c1 1) (C ++ [some ⟨[u64 (col m)], true⟩]) = some ([u64 (col m)], 1) := by
    simp [tailV, cellsAt_eq, hnew]
  have hCl := hC.1
  have hat : ∀ (A : MH) (o : MO) (k : Nat), k = A.length → hget (A ++ [some o]) k = some o := fun A o k hk => by subst hk; exact hget_append_new
  rcases hx with ⟨rfl, rfl⟩ | ⟨px, c, rfl, hmc, hpx, h1⟩
  · have : appV P #[t, t] (.lit (.slice none 0 0)) (.slice C.length 0 1 c1 1) (C ++ [some ⟨[u64 (col 0)], true⟩]) = some (some ([u64 (col 0)], 1, 1), C ++ [some ⟨[u64 (col 0)], true⟩] ++ [some ⟨[u64 (col 0)], true⟩]) := by
      unfold appV
      simp [ht, htl, one]
    rw [this]
    simp only [AppK, held_nil, true_and]
    intro c hc
    refine h _ _ ((hC.app _).app _) (.inr ⟨_, c, rfl, hc, ?_, ?_⟩)
    · exact hat _ _ _ (by simp)
    · omega
  · have hpo : hget (C ++ [some ⟨[u64 (col m)], true⟩]) px = some ⟨((List.range m).map col).map u64, true⟩ := hget_appL hpx
    have : appV P #[t, t] (.slice px 0 m c 1) (.slice C.length 0 1 c1 1) (C ++ [some ⟨[u64 (col m)], true⟩]) = some (some (((List.range (m + 1)).map col).map u64, m + 1, 1), (C ++ [some (MO.mk [u64 (col m)] true)]).set px none ++ [some ⟨((List.range (m + 1)).map col).map u64, true⟩]) := by
      have hr : ((List.range (m + 1)).map col).map u64 = ((List.range m).map col).map u64 ++ [u64 (col m)] := by simp [List.range_succ]
      rw [hr]
      unfold appV
      simp [ht, htl, one, hpo, show m + 1 ≤ 68719476736 by omega]
    rw [this]
    simp only [AppK, held_nil, true_and]
    intro c hc
    refine h _ _ (((hC.app _).setq _ h1).app _) (.inr ⟨_, c, rfl, hc, ?_, ?_⟩)
    · exact hat _ _ _ (by simp)
    · omega
end Go.Proofs.Ytamoljalficfgaa.M
