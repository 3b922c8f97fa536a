/- A matrix of Hessenberg's form, reduced. -/
import Derived.Test.YtamoljalficfgaaC27
set_option linter.unusedSimpArgs false
set_option linter.unusedVariables false
set_option maxRecDepth 10000
set_option maxHeartbeats 8000000
namespace Go.Proofs.Ytamoljalficfgaa.M
open Go Go.Proofs

/-- Two of the new objects are kept, wherever they stand. -/
theorem Spec.twoX {P : Program} {f : FuncId} {args : List MV} {H : MH} {v : Nat → Nat → MV} {cs ds : List MV} (hcs : ∀ c ∈ cs, Cl 0 [] c) (hds : ∀ c ∈ ds, Cl 0 [] c) (hv : ∀ p p', Cl H.length [p, p'] (v p p'))
    (hr : ∀ π p p', H.length ≤ p → H.length ≤ p' → ren π (v p p') = v (π p) (π p'))
    (h : Spec P f args H fun u H' => ∃ p p', u = v p p' ∧ p ≠ p' ∧ H.length ≤ p ∧ H.length ≤ p' ∧ hget H' p = some ⟨cs, true⟩ ∧ hget H' p' = some ⟨ds, true⟩ ∧ ∀ q, q < H.length → H'[q]? = H[q]?) :
    Spec P f args H fun u H' => u = v H.length (H.length + 1) ∧ H' = H ++ [some ⟨cs, true⟩, some ⟨ds, true⟩] := by
  refine Spec.gc h ?_
  rintro u H1 ⟨p, p', rfl, hne, hp, hp', hg, hg', hold⟩
  have hpl := lt_of_hget hg
  have ht : H1.take H.length = H := by
    apply List.ext_getElem?
    intro i
    rw [List.getElem?_take]
    split
    · exact hold i (by assumption)
    · rw [List.getElem?_eq_none (by omega)]
  have he : H1 = H ++ H1.drop H.length := by rw [← ht, List.length_take, Nat.min_eq_left (by omega), List.take_append_drop]
  have hk : keep H.length [p, p'] p = H.length := by
    unfold keep
    rw [if_neg (by omega)]
    simp
  have hk' : keep H.length [p, p'] p' = H.length + 1 := by
    unfold keep
    rw [if_neg (by omega)]
    have : (p == p') = false := by simp; omega
    simp [List.idxOf_cons, this]
  refine ⟨H, H1.drop H.length, [p, p'], he, rfl, by simp; omega, by simp; omega, fun p o ho => .inl ho, ?_, hv _ _, ?_, ?_⟩
  · intro x hx o ho c hc
    simp only [List.mem_cons, List.not_mem_nil, or_false] at hx
    rcases hx with rfl | rfl
    · rw [hg] at ho
      cases ho
      exact cl_more (cl_more (cl_mono (Nat.zero_le H.length) c (hcs c hc)))
    · rw [hg'] at ho
      cases ho
      exact cl_more (cl_more (cl_mono (Nat.zero_le H.length) c (hds c hc)))
  · rw [hr _ _ _ (by omega) (by omega), hk, hk']
  · simp only [List.map_cons, List.map_nil, keptO, hg, hg', Option.map_some]
    congr 3
    · congr 1
      exact (List.map_congr_left fun c hc => ren_free c (hcs c hc)).trans (List.map_id' _)
    · congr 3
      exact (List.map_congr_left fun c hc => ren_free c (hds c hc)).trans (List.map_id' _)

/-- The memory of hess.Reduce: two variables, two results, two matrices. -/
structure Rd (H : MH) (n : Int) (N : Nat) (U E : List Int) (C : MH) (p p' : Nat) : Prop where
  old : ∀ q, q < H.length → C[q]? = H[q]?
  c1 : hget C (H.length + 1) = some ⟨[i64 0, i64 0, i64 0, .lit (.slice none 0 0)], true⟩
  c2 : hget C (H.length + 2) = some ⟨[i64 0, i64 0, i64 0, .lit (.slice none 0 0)], true⟩
  c4 : hget C (H.length + 4) = some ⟨[i64 n, i64 n, i64 n, .slice p 0 N N 1], true⟩
  c6 : hget C (H.length + 6) = some ⟨[i64 n, i64 n, i64 n, .slice p' 0 N N 1], true⟩
  h1 : hget C p = some ⟨U.map u64, true⟩
  h2 : hget C p' = some ⟨E.map u64, true⟩
  ne : p ≠ p'
  l1 : H.length + 2 < p ∧ p ≠ H.length + 4 ∧ p ≠ H.length + 6
  l2 : H.length + 2 < p' ∧ p' ≠ H.length + 4 ∧ p' ≠ H.length + 6
theorem hget_appL {H L : MH} {p : Nat} {o : MO} (h : hget H p = some o) : hget (H ++ L) p = some o := (hget_old (lt_of_hget h)).trans h
theorem Rd.app {H : MH} {n : Int} {N : Nat} {U E : List Int} {C : MH} {p p' : Nat} (h : Rd H n N U E C p p') (L : MH) : Rd H n N U E (C ++ L) p p' :=
  ⟨fun q hq => by have := lt_of_hget h.c1; rw [List.getElem?_append_left (by omega)]; exact h.old q hq, hget_appL h.c1, hget_appL h.c2, hget_appL h.c4, hget_appL h.c6, hget_appL h.h1, hget_appL h.h2, h.ne, h.l1, h.l2⟩
theorem Rd.setq {H : MH} {n : Int} {N : Nat} {U E : List Int} {C : MH} {p p' : Nat} (h : Rd H n N U E C p p') {q : Nat} (x : Option MO) (hq : H.length + 6 < q) (h1 : q ≠ p) (h2 : q ≠ p') : Rd H n N U E (C.set q x) p p' :=
  ⟨fun r hr => by rw [List.getElem?_set_ne (by omega)]; exact h.old r hr, (hget_set_ne (by omega) _).trans h.c1, (hget_set_ne (by omega) _).trans h.c2, (hget_set_ne (by omega) _).trans h.c4, (hget_set_ne (by omega) _).trans h.c6, (hget_set_ne h1 _).trans h.h1, (hget_set_ne h2 _).trans h.h2, h.ne, h.l1, h.l2⟩

/-- A list that grows. -/
def Xs (H C : MH) (p1 p2 : Nat) (col : Nat → Int) (m : Nat) (v : MV) : Prop := (m = 0 ∧ v = .lit (.slice none 0 0)) ∨
  ∃ px c, v = .slice px 0 m c 1 ∧ m ≤ c ∧ hget C px = some ⟨((List.range m).map col).map u64, true⟩ ∧ H.length + 6 < px ∧ px ≠ p1 ∧ px ≠ p2
theorem app_xs {P : Program} {Q : MQ} {H C : MH} {n : Int} {N : Nat} {U E : List Int} {p1 p2 : Nat} (hC : Rd H n N U E C p1 p2) {col : Nat → Int} {m : Nat} {v : MV} (hx : Xs H C p1 p2 col m v) (hm : m ≤ 100) {t : TypeId} (ht : (ty P t).k = .slice 1 8 (some [.int .u64 0]) true)
    {a : Int} (ha : a = col m) {c1 : Nat} {d L l k ρ} (h : ∀ v' C', Rd H n N U E C' p1 p2 → Xs H C' p1 p2 col (m + 1) v' → W P Q (.run l [] :: k) (put ρ d v') C') :
    AppK P Q (appV P #[t, t] v (.slice C.length 0 1 c1 1) (C ++ [some ⟨[u64 a], true⟩])) (C.length + 1) d L l [] k ρ := by
  subst ha
  have hnew : hget (C ++ [some ⟨[u64 (col m)], true⟩]) C.length = some ⟨[u64 (col m)], true⟩ := hget_append_new
  have htl : tailV 1 (.slice C.length 0 1 c1 1) (C ++ [some ⟨[u64 (col m)], true⟩]) = some ([u64 (col m)], 1) := by
    simp [tailV, cellsAt_eq, hnew]
  have hCl := lt_of_hget hC.c6
  have hl1 := lt_of_hget hC.h1
  have hl2 := lt_of_hget hC.h2
  have hat : ∀ (A : MH) (o : MO) (k : Nat), k = A.length → hget (A ++ [some o]) k = some o := fun A o k hk => by subst hk; exact hget_append_new
  rcases hx with ⟨rfl, rfl⟩ | ⟨px, c, rfl, hmc, hpx, h1, h2, h3⟩
  · have : appV P #[t, t] (.lit (.slice none 0 0)) (.slice C.length 0 1 c1 1) (C ++ [some ⟨[u64 (col 0)], true⟩]) = some (some ([u64 (col 0)], 1, 1), C ++ [some ⟨[u64 (col 0)], true⟩] ++ [some ⟨[u64 (col 0)], true⟩]) := by
      unfold appV
      simp [ht, htl, one]
    rw [this]
    simp only [AppK, held_nil, true_and]
    intro c hc
    refine h _ _ ((hC.app _).app _) (.inr ⟨_, c, rfl, hc, ?_, ?_, ?_, ?_⟩)
    · exact hat _ _ _ (by simp)
    all_goals omega
  · have hpo : hget (C ++ [some ⟨[u64 (col m)], true⟩]) px = some ⟨((List.range m).map col).map u64, true⟩ := hget_appL hpx
    have : appV P #[t, t] (.slice px 0 m c 1) (.slice C.length 0 1 c1 1) (C ++ [some ⟨[u64 (col m)], true⟩]) = some (some (((List.range (m + 1)).map col).map u64, m + 1, 1), (C ++ [some (MO.mk [u64 (col m)] true)]).set px none ++ [some ⟨((List.range (m + 1)).map col).map u64, true⟩]) := by
      have hr : ((List.range (m + 1)).map col).map u64 = ((List.range m).map col).map u64 ++ [u64 (col m)] := by simp [List.range_succ]
      rw [hr]
      unfold appV
      simp [ht, htl, one, hpo, show m + 1 ≤ 68719476736 by omega]
    rw [this]
    simp only [AppK, held_nil, true_and]
    intro c hc
    refine h _ _ (((hC.app _).setq _ h1 h2 h3).app _) (.inr ⟨_, c, rfl, hc, ?_, ?_, ?_, ?_⟩)
    · exact hat _ _ _ (by simp)
    all_goals omega

theorem both_zero {n : Int} {p p' z z' : Nat} {D E : List Int} (h : MatOk n n D) (hI : InD D) (h' : MatOk n n E) (hI' : InD E) {v : MV} {V : List Int} {N : Nat} (hN : D.length = N) (hN' : E.length = N) {H : MH} {rw rw' : Bool} (hp : hget H p = some ⟨D.map u64, rw⟩) (hp' : hget H p' = some ⟨E.map u64, rw'⟩)
    (hv : Sl H v V) (hV : InD V) (m : Int) (hrows : rowsB V.length n m = true) :
    Spec Try.prog 37 [mx n n n p N z, mx n n n p' N z', .agg [v, u64 0], i64 m] H fun u H' => u = .tup [mx n n n H.length N N, mx n n n (H.length + 1) N N] ∧ H' = H ++ [some ⟨D.map u64, true⟩, some ⟨E.map u64, true⟩] := by
  have hl : ∀ S, leftR n n V 0 m S = S := fun S => if_pos (by decide)
  have hr : ∀ D g, MatOk n n D → (rightR n n V 0 m (D, g)).1 = D := fun D g hD => by
    unfold rightR
    rw [hl]
    exact mturn2 hD
  obtain ⟨g, hs⟩ := both_ok h hI h' hI' hN hN' hp hp' hv hV 0 m hrows
  rw [hl, hr _ _ h, hr _ _ h'] at hs
  exact hs
theorem genZ_len (N : Nat) : (genZ N).length = N := by simp [genZ]
theorem genZ_in (N : Nat) : InD (genZ N) := (InD.rep N).set 0 (by constructor <;> decide)
theorem oneM_in (n : Int) : InD (oneM n) := by
  unfold oneM
  generalize n.toNat = m
  induction m with
  | zero => exact InD.rep _
  | succ m ih => exact InD.setm ih _ _ _ _ _ (by constructor <;> decide)
theorem genZ_sl (C : MH) (m : Nat) (L : MH) : Sl (C ++ some ⟨(genZ m).map u64, true⟩ :: L) (.slice C.length 0 m m 1) (genZ m) := by
  refine .inr ⟨C.length, 0, m, _, by rw [genZ_len], by unfold hget; simp; rfl, fun i hi => ?_⟩
  simp [List.getD_eq_getElem?_getD, hi]

theorem set_same {r c : Int} {p z : Nat} {D : List Int} (h : MatOk r c D) (i k b : Int) (hs : setM r c c D i k b = D) {H : MH} (hp : hget H p = some ⟨D.map u64, true⟩) {n : Nat} (hn : D.length = n) : Spec Try.prog 17 [mx r c c p n z, i64 i, i64 k, u64 b] H fun v H' => v = .tup [] ∧ H' = H := by
  have := set_ok (z := z) h i k b hp hn
  rw [hs, hset_id hp] at this
  exact this
theorem setM_at {r c : Int} {D : List Int} (h : MatOk r c D) {i k : Nat} (hi : (i : Int) < r) (hk : (k : Int) < c) {b : Int} (hb : b = atM r c c D i k) : setM r c c D i k b = D := by
  subst hb
  unfold setM atM
  split
  · rename_i hin
    apply List.ext_getElem?
    intro t
    rw [List.getElem?_set]
    split
    · rename_i e
      subst e
      split
      · rename_i hl
        simp [List.getD_eq_getElem?_getD, hl]
      · rename_i hl
        rw [List.getElem?_eq_none (by omega)]
    · rfl
  · rfl
theorem reduce_spec {n : Int} {p z : Nat} {D : List Int} (h : MatOk n n D) (hI : InD D) (hn8 : n ≤ 8) {N : Nat} (hN : D.length = N) {H : MH} {rw : Bool} (hp : hget H p = some ⟨D.map u64, rw⟩) (hfin : finD D = true)
    (hUz : ∀ i k : Nat, (i : Int) < n → k + 2 ≤ i → atM n n n (unitD n n D) i k = 0) (hUf : ∀ i k : Nat, (i : Int) < n → (k : Int) < n → finiteM (atM n n n (unitD n n D) i k) = true) :
    Spec Try.prog 18 [mx n n n p N z] H fun u H' => u = .tup [mx n n n H.length N N, mx n n n (H.length + 1) N N, i64 (unitE n n D), i64 0] ∧ H' = H ++ [some ⟨(unitD n n D).map u64, true⟩, some ⟨(oneM n).map u64, true⟩] := by
  have hpl := lt_of_hget hp
  have hn : 0 ≤ n ∧ n ≤ 4096 := ⟨h.r0, h.r1⟩
  have hU := unitD_ok h
  have hUN : (unitD n n D).length = N := (unitD_len n n D).trans hN
  have hNN : (n * n).toNat = N := h.len.symm.trans hN
  have hE := oneM_ok hn
  have hEN : (oneM n).length = N := hE.len.trans hNN
  have hone : ∀ H : MH, Spec Try.prog 25 [i64 n] H fun v H' => v = mx n n n H.length N N ∧ H' = H ++ [some ⟨(oneM n).map u64, true⟩] := fun H => by have := one_spec hn H; rw [hNN] at this; exact this
  refine Spec.twoX (v := fun p p' => .tup [mx n n n p N N, mx n n n p' N N, i64 (unitE n n D), i64 0]) (closed_u64 _) (closed_u64 _) (fun p p' => by simp [Cl, Cls']) (fun π p p' _ _ => by simp [ren, rens]) ?_
  refine enterS Try.func18 [.cell 2 26, .cell 3 26, .tmp 4, .tmp 5] ?_
  repeat' first | (with_reducible (show W _ _ _ _ _); with_reducible refine go2 ?_) | (with_reducible (show W _ _ _ _ _); with_reducible refine sg2 ?_ ?_ <;> intro _) | (with_reducible (show W _ _ _ _ _); with_reducible refine sc2 ?_ ?_ <;> intro _) | (with_reducible (show CallK _ _ _ _ _ _ _ _ _ _ _); with_reducible refine ce2 (check_ok h hN _) ?_) | (with_reducible (show CallK _ _ _ _ _ _ _ _ _ _ _); with_reducible refine ce2 (finite_mspec h hN ((hget_old hpl).trans hp)) ?_) | (with_reducible (show W _ _ (.code (.region 24 _ true) :: _) _ _); with_reducible refine W_draw [(0, []), (1, []), (2, []), (3, [1]), (4, []), (5, []), (6, [])] [1] (by kernel_rfl) ?_) | ((with_reducible (show CallK _ _ _ _ _ _ _ _ _ _ _); first | (with_reducible refine cm2 (unit_mspec h hI hN ((hget_old hpl).trans hp)) ?_) | (with_reducible refine cm2 (hone _) ?_)))
  refine W_for (fun j ρ C => ∃ (k p1 p2 : Nat), k + j = n.toNat ∧ ρ 2 = .ptr (H.length + 1) 0 ∧ ρ 3 = .ptr (H.length + 2) 0 ∧ ρ 6 = .ptr (H.length + 4) 0 ∧ ρ 7 = i64 (unitE n n D) ∧ ρ 8 = .ptr (H.length + 6) 0 ∧ ρ 9 = i64 k ∧ Rd H n N (unitD n n D) (oneM n) C p1 p2) n.toNat ?_ ?_
  · refine ⟨0, H.length + 3, H.length + 5, by omega, ?_⟩
    have hs : ∀ L : MH, ∀ q, q < H.length → (H ++ L)[q]? = H[q]? := fun L q hq => List.getElem?_append_left hq
    simp [put, args0]
    exact ⟨hs _, hget_newL rfl, hget_newL rfl, hget_newL rfl, hget_newL rfl, hget_newL rfl, hget_newL rfl, by omega, by omega, by omega⟩
  rintro j ρ C ⟨k, p1, p2, hk, r2, r3, r6, r7, r8, r9, hC⟩
  have c4 := hC.c4
  have c6 := hC.c6
  have c1 := hC.c1
  have c2 := hC.c2
  have hCl := lt_of_hget hC.c6
  have s16 : ∀ x, hget (C.set (H.length + 1) x) (H.length + 6) = some ⟨[i64 n, i64 n, i64 n, .slice p2 0 N N 1], true⟩ := fun x => (hget_set_ne (by omega) _).trans c6
  have s12 : ∀ x, hget (C.set (H.length + 1) x) (H.length + 2) = some ⟨[i64 0, i64 0, i64 0, .lit (.slice none 0 0)], true⟩ := fun x => (hget_set_ne (by omega) _).trans c2
  have s1 : ∀ x y, hget ((C.set (H.length + 1) x).set (H.length + 2) y) (H.length + 1) = x := fun x y => (hget_set_ne (by omega) _).trans (hget_set_same (by omega) _)
  have s2 : ∀ x y, hget ((C.set (H.length + 1) x).set (H.length + 2) y) (H.length + 2) = y := fun x y => hget_set_same (by rw [List.length_set]; omega) _
  have w2 : (k : Int) + 2 ≤ 100 → IntKind.i64.wrap ((k : Int) + 2) = (k : Int) + 2 := fun h => wrap_i64 (by omega)
  have w1 : (k : Int) + 2 ≤ 100 → IntKind.i64.wrap ((k : Int) + 1) = ((k + 1 : Nat) : Int) := fun h => by rw [wrap_i64 (by omega)]; omega
  have kb : (k : Int) + 2 ≤ 100 := by omega
  have e2 := w2 kb
  have e1 := w1 kb
  clear w2 w1
  repeat' first | (with_reducible (show W _ _ _ _ _); with_reducible refine go2 ?_) | (with_reducible (show W _ _ _ _ _); with_reducible refine sg2 ?_ ?_ <;> intro _) | (with_reducible (show W _ _ _ _ _); with_reducible refine sc2 ?_ ?_ <;> intro _) | (with_reducible (show W _ _ (.code (.region 24 _ true) :: _) _ _); with_reducible refine W_draw [(0, []), (1, []), (2, []), (3, [1]), (4, []), (5, []), (6, [])] [1] (by kernel_rfl) ?_)
  · rename_i hlt
    refine W_for (fun j' ρ C => ∃ m : Nat, k + 1 + m + j' = n.toNat ∧ ρ 2 = .ptr (H.length + 1) 0 ∧ ρ 3 = .ptr (H.length + 2) 0 ∧ ρ 6 = .ptr (H.length + 4) 0 ∧ ρ 7 = i64 (unitE n n D) ∧ ρ 8 = .ptr (H.length + 6) 0 ∧ ρ 9 = i64 k ∧ ρ 11 = i64 ((k + 1 + m : Nat) : Int) ∧
      Rd H n N (unitD n n D) (oneM n) C p1 p2 ∧ Xs H C p1 p2 (fun t => atM n n n (unitD n n D) ((k + 1 + t : Nat) : Int) k) m (ρ 10)) (n.toNat - (k + 1)) ?_ ?_
    · refine ⟨0, by omega, ?_⟩
      simp [put, *, Xs]
    clear r2 r3 r6 r7 r8 r9 c4 c6 hC c1 c2 hCl s16 s12 s1 s2
    rintro j' ρ' C ⟨m, hm, r2, r3, r6, r7, r8, r9, r11, hC, hx⟩
    have c4 := hC.c4
    have c6 := hC.c6
    have hp1 := hC.h1
    have hbs : ∀ x : Int, bsV (.slice 1 8 (some [.int .u64 0]) true) 1 [(0, u64 x)] = some ([u64 x], 1) := fun x => _root_.id rfl
    have e3 : IntKind.i64.wrap (((k + 1 + m : Nat) : Int) + 1) = ((k + 1 + (m + 1) : Nat) : Int) := by rw [wrap_i64 (by omega)]; omega
    repeat' first | (with_reducible (show W _ _ _ _ _); with_reducible refine go2 ?_) | (with_reducible (show W _ _ _ _ _); with_reducible refine sg2 ?_ ?_ <;> intro _) | (with_reducible (show W _ _ _ _ _); with_reducible refine sc2 ?_ ?_ <;> intro _) | (with_reducible (show CallK _ _ _ _ _ _ _ _ _ _ _); with_reducible refine ce2 (at_ok hU _ _ hp1 hUN) ?_) | (with_reducible (show W _ _ (.code (.region 24 _ true) :: _) _ _); with_reducible refine W_draw [(0, []), (1, []), (2, []), (3, [1]), (4, []), (5, []), (6, [])] [1] (by kernel_rfl) ?_) | ((with_reducible (show AppK _ _ _ _ _ _ _ _ _ _); with_reducible refine app_xs hC hx (by omega) (by rw [ty_22]) rfl ?_; rintro v' C' hC' hx'))
    · exact ⟨j' - 1, by omega, m + 1, by omega, rfl, hx'⟩
    have hm2 : k + 1 + m = n.toNat := by omega
    rcases hx with ⟨rfl, _⟩ | ⟨px, c, r10, hmc, hpx, l1, l2, l3⟩
    · omega
    have hxl : ((List.range m).map fun t => atM n n n (unitD n n D) ((k + 1 + t : Nat) : Int) k).length = m := by simp
    have hxg : ∀ t, t < m → ((List.range m).map fun t => atM n n n (unitD n n D) ((k + 1 + t : Nat) : Int) k).getD t 0 = atM n n n (unitD n n D) ((k + 1 + t : Nat) : Int) k := fun t ht => by simp [List.getD_eq_getElem?_getD, ht]
    have hx0 := hxg 0 (by omega)
    have hgen := gen_zero hpx (by rw [hxl]; omega) hxl hmc (fun t ht => by rw [hxl] at ht; rw [hxg t ht]; exact hUf _ _ (by omega) (by omega)) (fun x hx => by
      obtain ⟨i, hi, rfl⟩ := List.getElem_of_mem hx
      rw [List.length_tail, hxl] at hi
      simp
      exact hUz (k + 1 + (i + 1)) k (by omega) (by omega))
    rw [hx0] at hgen
    have hrows : rowsB (genZ m).length n ((k + 1 : Nat) : Int) = true := by
      rw [genZ_len]
      simp only [rowsB, Bool.and_eq_true, decide_eq_true_eq]
      rw [wrap_i64 (by omega)]
      omega
    have hUI := unitD_in (r := n) (c := n) hI
    have hEI := oneM_in n
    have hp2 := hC.h2
    have hCl := lt_of_hget hC.c6
    have hCl4 := lt_of_hget hC.c4
    have t46 : ∀ x, hget (C.set (H.length + 4) x) (H.length + 6) = some ⟨[i64 n, i64 n, i64 n, .slice p2 0 N N 1], true⟩ := fun x => (hget_set_ne (by omega) _).trans c6
    have t4 : ∀ x y L, hget ((C.set (H.length + 4) x).set (H.length + 6) y ++ L) (H.length + 4) = x := fun x y L => by
      rw [hget_old (by simp only [List.length_set]; omega), hget_set_ne (by omega), hget_set_same (by omega)]
    have t6 : ∀ x y L, hget ((C.set (H.length + 4) x).set (H.length + 6) y ++ L) (H.length + 6) = y := fun x y L => by
      rw [hget_old (by simp only [List.length_set]; omega), hget_set_same (by rw [List.length_set]; omega)]
    have tU : ∀ x y a b o L, hget ((C.set (H.length + 4) x).set (H.length + 6) y ++ a :: b :: some o :: L) (C.length + 2) = some o := fun x y a b o L => by
      unfold hget
      rw [List.getElem?_append_right (by simp)]
      simp
    have tE : ∀ x y a b c o L, hget ((C.set (H.length + 4) x).set (H.length + 6) y ++ a :: b :: c :: some o :: L) (C.length + 3) = some o := fun x y a b c o L => by
      unfold hget
      rw [List.getElem?_append_right (by simp)]
      simp
    have hset1 := setM_at (b := atM n n n (unitD n n D) ((k + 1 : Nat) : Int) k) hU (i := k + 1) (k := k) (by omega) (by omega) rfl
    have h23 : C.length + 2 + 1 = C.length + 3 := rfl
    rw [r10]
    repeat' first | (with_reducible (show W _ _ _ _ _); with_reducible refine go2 ?_) | (with_reducible (show W _ _ _ _ _); with_reducible refine sg2 ?_ ?_ <;> intro _) | (with_reducible (show W _ _ _ _ _); with_reducible refine sc2 ?_ ?_ <;> intro _) | (with_reducible (show W _ _ (.code (.region 24 _ true) :: _) _ _); with_reducible refine W_draw [(0, []), (1, []), (2, []), (3, [1]), (4, []), (5, []), (6, [])] [1] (by kernel_rfl) ?_) | ((with_reducible (show CallK _ _ _ _ _ _ _ _ _ _ _); first | (with_reducible refine cm2 hgen ?_) | (with_reducible refine cm2 (both_zero hU hUI hE hEI hUN hEN (hget_appL hp1) (hget_appL hp2) (genZ_sl C m _) (genZ_in m) _ hrows) ?_) | (with_reducible refine cm2 (set_same hU _ _ _ hset1 (tU _ _ _ _ _ _) hUN) ?_)))
    have hC2 : ∀ a b : MO, Rd H n N (unitD n n D) (oneM n) ((C.set (H.length + 4) (some ⟨[i64 n, i64 n, i64 n, .slice (C.length + 2) 0 N N 1], true⟩)).set (H.length + 6) (some ⟨[i64 n, i64 n, i64 n, .slice (C.length + 3) 0 N N 1], true⟩) ++ [some a, some b, some ⟨(unitD n n D).map u64, true⟩, some ⟨(oneM n).map u64, true⟩]) (C.length + 2) (C.length + 3) := fun a b => by
      refine ⟨fun q hq => ?_, ?_, ?_, t4 _ _ _, t6 _ _ _, tU _ _ _ _ _ _, tE _ _ _ _ _ _ _, by omega, by omega, by omega⟩
      · rw [List.getElem?_append_left (by simp only [List.length_set]; omega), List.getElem?_set_ne (by omega), List.getElem?_set_ne (by omega)]
        exact hC.old q hq
      · rw [hget_old (by simp only [List.length_set]; omega), hget_set_ne (by omega), hget_set_ne (by omega)]
        exact hC.c1
      · rw [hget_old (by simp only [List.length_set]; omega), hget_set_ne (by omega), hget_set_ne (by omega)]
        exact hC.c2
    refine W_for (fun j' ρ C' => ∃ m : Nat, k + 2 + m + j' = n.toNat ∧ ρ 2 = .ptr (H.length + 1) 0 ∧ ρ 3 = .ptr (H.length + 2) 0 ∧ ρ 6 = .ptr (H.length + 4) 0 ∧ ρ 7 = i64 (unitE n n D) ∧ ρ 8 = .ptr (H.length + 6) 0 ∧ ρ 9 = i64 k ∧ ρ 16 = i64 ((k + 2 + m : Nat) : Int) ∧
      Rd H n N (unitD n n D) (oneM n) C' (C.length + 2) (C.length + 3)) (n.toNat - (k + 2)) ?_ ?_
    · refine ⟨0, by omega, ?_⟩
      simp [put, *]
    clear r2 r3 r6 r7 r8 r9 c4 c6 hC r10 r11 t46 t4 t6 tU tE hx0 hgen hrows hpx hC2
    generalize C.length + 2 = p1, C.length + 3 = p2
    rintro j'' ρ'' C' ⟨m, hm, r2, r3, r6, r7, r8, r9, r16, hC⟩
    have c4 := hC.c4
    have hp1 := hC.h1
    have e4 : IntKind.i64.wrap (((k + 2 + m : Nat) : Int) + 1) = ((k + 2 + (m + 1) : Nat) : Int) := by rw [wrap_i64 (by omega)]; omega
    have hset2 : ((k + 2 + m : Nat) : Int) < n → setM n n n (unitD n n D) ((k + 2 + m : Nat) : Int) k 0 = unitD n n D := fun hl => setM_at hU (i := k + 2 + m) (k := k) (by omega) (by omega) (hUz (k + 2 + m) k (by omega) (by omega)).symm
    repeat' first | (with_reducible (show W _ _ _ _ _); with_reducible refine go2 ?_) | (with_reducible (show W _ _ _ _ _); with_reducible refine sg2 ?_ ?_ <;> intro _) | (with_reducible (show W _ _ _ _ _); with_reducible refine sc2 ?_ ?_ <;> intro _) | (with_reducible (show W _ _ (.code (.region 24 _ true) :: _) _ _); with_reducible refine W_draw [(0, []), (1, []), (2, []), (3, [1]), (4, []), (5, []), (6, [])] [1] (by kernel_rfl) ?_) | ((with_reducible (show CallK _ _ _ _ _ _ _ _ _ _ _); with_reducible refine cm2 (set_same hU _ _ _ (hset2 (by assumption)) hp1 hUN) ?_))
    · exact ⟨j'' - 1, by omega, m + 1, by omega, rfl⟩
    · exact ⟨j - 1, by omega, k + 1, p1, p2, by omega, rfl, hC⟩
  · have l1 := hC.l1
    have l2 := hC.l2
    refine ⟨p1, p2, rfl, hC.ne, by omega, by omega, ?_, ?_, ?_⟩
    · rw [hget_set_ne (by omega), hget_set_ne (by omega)]; exact hC.h1
    · rw [hget_set_ne (by omega), hget_set_ne (by omega)]; exact hC.h2
    · intro q hq
      rw [List.getElem?_set_ne (by omega), List.getElem?_set_ne (by omega)]
      exact hC.old q hq
end Go.Proofs.Ytamoljalficfgaa.M
