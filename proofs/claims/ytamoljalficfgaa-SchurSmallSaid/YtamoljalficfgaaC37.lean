/- The reflection of any list. -/
import Derived.Test.YtamoljalficfgaaC36
set_option linter.unusedSimpArgs false
set_option linter.unusedVariables false
set_option maxRecDepth 10000
set_option maxHeartbeats 8000000
namespace Go.Proofs.Ytamoljalficfgaa.M
open Go Go.Proofs

def finL (xs : List Int) : Bool := xs.all finiteM
theorem hgen_err {H : MH} {v : MV} {xs : List Int} (hv : Sl H v xs) (hlen0 : xs.length ≤ 1000000) (hbad : xs.length = 0 ∨ finL xs = false) : Spec Try.prog 36 [v] H fun u H' => ∃ t : Int × Int, t.2 ≠ 0 ∧ u = .tup [.agg [.lit (.slice none 0 0), u64 0], u64 t.1, u8 0, i64 t.2] ∧ H' = H := by
  have hlen := len22 hv
  refine Spec.scalarE (G := fun t : Int × Int => t.2 ≠ 0) (r := fun t : Int × Int => .tup [.agg [.lit (.slice none 0 0), u64 0], u64 t.1, u8 0, i64 t.2]) (enterS Try.func36 [.cell 2 75, .tmp 3, .tmp 4, .tmp 5] ?_)
  repeat' first | (with_reducible (show W _ _ _ _ _); with_reducible refine go2 ?_) | (with_reducible (show W _ _ _ _ _); with_reducible refine sg2 ?_ ?_ <;> intro _) | (with_reducible (show W _ _ _ _ _); with_reducible refine sc2 ?_ ?_ <;> intro _) | (with_reducible (show W _ _ (.code (.region 12 _ true) :: _) _ _); with_reducible refine W_draw [(0, []), (1, []), (3, []), (4, []), (5, []), (2, [5]), (6, [5]), (7, []), (8, []), (9, [])] [5] (by kernel_rfl) ?_) | (with_reducible (show W _ _ (.code (.region 23 _ true) :: _) _ _); with_reducible refine W_draw [(0, []), (1, []), (2, []), (3, []), (4, [1]), (5, []), (6, []), (7, []), (8, [])] [1] (by kernel_rfl) ?_)
  · exact ⟨(0, 4), by decide, rfl⟩
  rename_i hne
  have hf : finL xs = false := by
    rcases hbad with h | h
    · exact absurd (by omega) hne
    · exact h
  refine W_for (fun j ρ H' => ∃ k : Nat, k + j = xs.length ∧ (∀ i, i < k → finiteM (xs.getD i 0) = true) ∧ ρ 2 = .ptr H.length 0 ∧ ρ 25 = v ∧ ρ 26 = i64 (xs.length : Int) ∧ ρ 27 = i64 k ∧ H' = H ++ [some ⟨[.lit (.slice none 0 0), u64 0], true⟩]) xs.length ?_ ?_
  · refine ⟨0, by omega, fun i hi => by omega, ?_⟩
    simp [put, args0]
  rintro j ρ H' ⟨k, hk, hall, h2, h25, h26, h27, rfl⟩
  replace hall : Hid2 (∀ i, i < k → finiteM (xs.getD i 0) = true) := hall
  have hia2 : (k : Int) < xs.length → iaV (.slice 1 8 (some [.int .u64 0]) true) v (.lit (.int .i64 k)) = some (ixq v k) := fun h => hv.ia (by omega) _ _ _ _
  have hld2 : ∀ (L : MH), (k : Int) < xs.length → loadV Try.prog 23 (ixq v k) (H ++ L) = some (u64 (xs.getD k 0)) := fun L h => (hv.app L).ld (by rw [ty_23]) (by rw [ty_23]) (by omega)
  have hend : ¬ (k : Int) < xs.length → False := fun h => by
    have : ∀ x ∈ xs, finiteM x = true := by
      intro x hx
      obtain ⟨i, hi, rfl⟩ := List.getElem_of_mem hx
      have := hall i (by omega)
      simpa [List.getD_eq_getElem?_getD, hi] using this
    have h2 : finL xs = true := List.all_eq_true.2 this
    rw [h2] at hf; cases hf
  by_cases hlt : (k : Int) < xs.length
  · repeat' first | (with_reducible (show W _ _ _ _ _); with_reducible refine go2 ?_) | (with_reducible (show W _ _ _ _ _); with_reducible refine sg2 ?_ ?_ <;> intro _) | (with_reducible (show W _ _ _ _ _); with_reducible refine sc2 ?_ ?_ <;> intro _) | (with_reducible (show CallK _ _ _ _ _ _ _ _ _ _ _); with_reducible refine ce2 (finite_spec _ _) ?_) | (with_reducible (show W _ _ (.code (.region 12 _ true) :: _) _ _); with_reducible refine W_draw [(0, []), (1, []), (3, []), (4, []), (5, []), (2, [5]), (6, [5]), (7, []), (8, []), (9, [])] [5] (by kernel_rfl) ?_) | (with_reducible (show W _ _ (.code (.region 23 _ true) :: _) _ _); with_reducible refine W_draw [(0, []), (1, []), (2, []), (3, []), (4, [1]), (5, []), (6, []), (7, []), (8, [])] [1] (by kernel_rfl) ?_)
    · exact ⟨(9221120237041090560, 6), by decide, rfl⟩
    · rename_i hf2
      refine ⟨j - 1, by omega, k + 1, by omega, fun i hi => ?_, by rw [wrap_suc (n := (xs.length : Int)) (by assumption) (by omega)]⟩
      by_cases e : i = k
      · subst e; simpa using hf2
      · exact hall i (by omega)
  · exact (hend hlt).elim
/-- What house.Gen answers: the list, its factor, its room, the first number, what was met. -/
structure GT where
  V : List Int
  tau : Int
  c : Nat
  b : Int
  f : Int
/-- The memory of house.Gen: a result, the list divided, what was met, the reflection (its list as it was written last), its list as it is. -/
structure Gd (H : MH) (U L : List Int) (tau : Int) (C : MH) (w v : MV) : Prop where
  old : Old H C
  c0 : hget C H.length = some ⟨[.lit (.slice none 0 0), u64 0], true⟩
  cU : hget C (H.length + 1) = some ⟨U.map u64, true⟩
  cg : ∃ g, hget C (H.length + 2) = some ⟨[u8 g], true⟩
  cr : hget C (H.length + 4) = some ⟨[w, u64 tau], true⟩
  cv : ∃ px c, v = .slice px 0 L.length c 1 ∧ L.length ≤ c ∧ hget C px = some ⟨L.map u64, true⟩ ∧ H.length + 2 < px ∧ px ≠ H.length + 4
theorem Gd.met {H : MH} {U L : List Int} {tau : Int} {C : MH} {w v : MV} (h : Gd H U L tau C w v) (g : Int) : Gd H U L tau (C.set (H.length + 2) (some ⟨[u8 g], true⟩)) w v := by
  obtain ⟨px, c, h1, h2, h3, h4, h5⟩ := h.cv
  have hl := lt_of_hget h.cr
  exact ⟨h.old.setq _ (by omega), (hget_set_ne (by omega) _).trans h.c0, (hget_set_ne (by omega) _).trans h.cU, ⟨g, hget_set_same (by omega) _⟩, (hget_set_ne (by omega) _).trans h.cr, px, c, h1, h2, (hget_set_ne (by omega) _).trans h3, h4, h5⟩
theorem Gd.put {H : MH} {U L : List Int} {tau : Int} {C : MH} {w v : MV} (h : Gd H U L tau C w v) : Gd H U L tau (C.set (H.length + 4) (some ⟨[v, u64 tau], true⟩)) v v := by
  obtain ⟨px, c, h1, h2, h3, h4, h5⟩ := h.cv
  obtain ⟨g, hg⟩ := h.cg
  have hl := lt_of_hget h.cr
  exact ⟨h.old.setq _ (by omega), (hget_set_ne (by omega) _).trans h.c0, (hget_set_ne (by omega) _).trans h.cU, ⟨g, (hget_set_ne (by omega) _).trans hg⟩, hget_set_same (by omega) _, px, c, h1, h2, (hget_set_ne (by omega) _).trans h3, h4, h5⟩
theorem Gd.cells {H : MH} {U L : List Int} {tau : Int} {C : MH} {w v : MV} (h : Gd H U L tau C w v) : cellsM v = [v] := by
  obtain ⟨px, c, rfl, _⟩ := h.cv; rfl
theorem Gd.ones {H : MH} {U L : List Int} {tau : Int} {C : MH} {w v : MV} (h : Gd H U L tau C w v) : one v = true := by
  obtain ⟨px, c, rfl, _⟩ := h.cv; rfl
theorem app_gd {P : Program} {Q : MQ} {H C : MH} {U L0 : List Int} {tau : Int} {w v : MV} (hC : Gd H U L0 tau C w v) (hm : L0.length ≤ 10000000) {t : TypeId} (ht : (ty P t).k = .slice 1 8 (some [.int .u64 0]) true)
    {a : Int} {c1 n0 : Nat} (hn0 : n0 = C.length) {d l F k ρ} (h : ∀ v' C', Gd H U (L0 ++ [a]) tau C' w v' → W P Q (.run l F :: k) (put ρ d v') C') :
    AppK P Q (appV P #[t, t] v (.slice n0 0 1 c1 1) (C ++ [some ⟨[u64 a], true⟩])) (n0 + 1) d [] l F k ρ := by
  subst hn0
  obtain ⟨px, c, rfl, h2, hpx, h4, h5⟩ := hC.cv
  obtain ⟨g, hg⟩ := hC.cg
  have hl := lt_of_hget hC.cr
  have hnew : hget (C ++ [some ⟨[u64 a], true⟩]) C.length = some ⟨[u64 a], true⟩ := hget_append_new
  have htl : tailV 1 (.slice C.length 0 1 c1 1) (C ++ [some ⟨[u64 a], true⟩]) = some ([u64 a], 1) := by
    simp [tailV, cellsAt_eq, hnew]
  have hat : ∀ (A : MH) (o : MO) (k : Nat), k = A.length → hget (A ++ [some o]) k = some o := fun A o k hk => by subst hk; exact hget_append_new
  have hpo : hget (C ++ [some ⟨[u64 a], true⟩]) px = some ⟨L0.map u64, true⟩ := hget_appL hpx
  have : appV P #[t, t] (.slice px 0 L0.length c 1) (.slice C.length 0 1 c1 1) (C ++ [some ⟨[u64 a], true⟩]) = some (some ((L0 ++ [a]).map u64, L0.length + 1, 1), (C ++ [some (MO.mk [u64 a] true)]).set px none ++ [some ⟨(L0 ++ [a]).map u64, true⟩]) := by
    have hr : (L0 ++ [a]).map u64 = L0.map u64 ++ [u64 a] := by simp
    rw [hr]
    unfold appV
    simp [ht, htl, one, hpo, show L0.length + 1 ≤ 68719476736 by omega]
  rw [this]
  simp only [AppK]
  intro c hc
  have keep : ∀ {q : Nat} {o : MO}, hget C q = some o → px ≠ q → hget ((C ++ [some (MO.mk [u64 a] true)]).set px none ++ [some ⟨(L0 ++ [a]).map u64, true⟩]) q = some o := fun {q o} hq hne => hget_appL ((hget_set_ne hne _).trans (hget_appL hq))
  refine ⟨held_none _ _ _, h _ _ ⟨((hC.old.app _).setq _ (by omega)).app _, keep hC.c0 (by omega), keep hC.cU (by omega), ⟨g, keep hg (by omega)⟩, keep hC.cr h5, C.length + 1, c, by simp, by simpa using hc, ?_, by omega, by omega⟩⟩
  exact hat _ _ _ (by simp)
/-- A call of which a kind is told, where something is held. -/
theorem cxh {g : FuncId} {Q : MQ} {k : List It} {ρ : Env} {H : MH} {args : List MV} {d L l F} {K : MV → MH → Prop} (hs : Spec Try.prog g args H K) (h : ∀ v H', K v H' → held Try.prog L H' F ∧ W Try.prog Q (.run l F :: k) (put ρ d v) H') : CallK Try.prog Q (.fn (.func g) [] []) args d L l F k ρ H :=
  CallK_of (a := []) (b := []) (by simpa using hs) h
theorem hgen_ok {H : MH} {p o c : Nat} {ob : MO} {xs : List Int} (hp : hget H p = some ob) (hcell : ∀ i, i < xs.length → ob.cells[o + i]? = some (u64 (xs.getD i 0))) (hc : xs.length ≤ c) (hlen : 0 < xs.length ∧ xs.length ≤ 1000000) (hfin : finL xs = true) (hI : InD xs) :
    Spec Try.prog 36 [.slice p o xs.length c 1] H fun u H' => ∃ t : GT, (t.V.length = xs.length ∧ InD t.V ∧ xs.length ≤ t.c) ∧ u = .tup [.agg [.slice H.length 0 xs.length t.c 1, u64 t.tau], u64 t.b, u8 t.f, i64 0] ∧ H' = H ++ [some ⟨t.V.map u64, true⟩] := by
  have hpl := lt_of_hget hp
  obtain ⟨N, hN⟩ : ∃ N, N = xs.length := ⟨_, rfl⟩
  have hv : Sl H (.slice p o xs.length c 1) xs := .inr ⟨p, o, c, _, rfl, hp, hcell⟩
  have hv1 : Sl H (.slice p (if c = 1 then o else o + 1) (xs.length - 1) (c - 1) 1) xs.tail := .inr ⟨p, (if c = 1 then o else o + 1), c - 1, _, by rw [List.length_tail], hp, fun i hi => by
    rw [List.length_tail] at hi
    rw [if_neg (by omega), Nat.add_assoc, Nat.add_comm 1 i, hcell (i + 1) (by omega)]
    simp [List.getD_eq_getElem?_getD]⟩
  have hl1 : xs.tail.length ≤ 1000000 := by rw [List.length_tail]; omega
  have om : ∀ f : Operand → MV, Option.map f none = none := fun _ => _root_.id rfl
  have s1 : (1 ≤ (xs.length : Int)) = True := eq_true (by omega)
  have s3 : Int.toNat 1 = 1 := _root_.id rfl
  have s4 : ((0 : Int) ≤ 1) = True := eq_true (by decide)
  have hne : ((xs.length : Int) = 0) = False := eq_false (by omega)
  have hfx : ∀ k : Nat, k < xs.length → finiteM (xs.getD k 0) = true := fun k hk => by
    unfold finL at hfin
    rw [List.all_eq_true] at hfin
    rw [List.getD_eq_getElem?_getD, List.getElem?_eq_getElem hk]
    exact hfin _ (List.getElem_mem hk)
  refine Spec.oneX (G := fun t : GT => t.V.length = xs.length ∧ InD t.V ∧ xs.length ≤ t.c) (v := fun t p => .tup [.agg [.slice p 0 xs.length t.c 1, u64 t.tau], u64 t.b, u8 t.f, i64 0]) (cs := fun t => t.V.map u64) (fun t => closed_u64 _) (fun t p => by simp [Cl, Cls']) (fun t π p _ => by simp [ren, rens]) ?_
  refine enterS Try.func36 [.cell 2 75, .tmp 3, .tmp 4, .tmp 5] ?_
  repeat' first | (with_reducible (show W _ _ _ _ _); with_reducible refine go2 ?_) | (with_reducible (show W _ _ _ _ _); with_reducible refine sg2 ?_ ?_ <;> intro _) | (with_reducible (show W _ _ _ _ _); with_reducible refine sc2 ?_ ?_ <;> intro _) | (with_reducible (show W _ _ (.code (.region 12 _ true) :: _) _ _); with_reducible refine W_draw [(0, []), (1, []), (3, []), (4, []), (5, []), (2, [5]), (6, [5]), (7, []), (8, []), (9, [])] [5] (by kernel_rfl) ?_) | (with_reducible (show W _ _ (.code (.region 23 _ true) :: _) _ _); with_reducible refine W_draw [(0, []), (1, []), (2, []), (3, []), (4, [1]), (5, []), (6, []), (7, []), (8, [])] [1] (by kernel_rfl) ?_)
  refine W_for (fun j ρ H' => ∃ k : Nat, k + j = xs.length ∧ ρ 0 = .slice p o xs.length c 1 ∧ ρ 2 = .ptr H.length 0 ∧ ρ 25 = .slice p o xs.length c 1 ∧ ρ 26 = i64 (xs.length : Int) ∧ ρ 27 = i64 k ∧ H' = H ++ [some ⟨[.lit (.slice none 0 0), u64 0], true⟩]) xs.length ?_ ?_
  · refine ⟨0, by omega, ?_⟩
    simp [put, args0]
  rintro j ρ H' ⟨k, hk, h0, h2, h25, h26, h27, rfl⟩
  have hia2 : ∀ k : Nat, (k : Int) < xs.length → iaV (.slice 1 8 (some [.int .u64 0]) true) (.slice p o xs.length c 1) (.lit (.int .i64 k)) = some (ixq (.slice p o xs.length c 1) k) := fun k h => hv.ia (by omega) _ _ _ _
  have hld2 : ∀ (k : Nat) (L : MH), (k : Int) < xs.length → loadV Try.prog 23 (ixq (.slice p o xs.length c 1) k) (H ++ L) = some (u64 (xs.getD k 0)) := fun k L h => (hv.app L).ld (by rw [ty_23]) (by rw [ty_23]) (by omega)
  have hld0 : ∀ L : MH, loadV Try.prog 23 (.ptr p o) (H ++ L) = some (u64 (xs.getD 0 0)) := fun L => by have := hld2 0 L (by omega); simpa [ixq] using this
  have hn0 : (0 < (xs.length : Int)) = True := eq_true (by omega)
  have f9 : (k : Int) < xs.length → finiteM (xs.getD k 0) = true := fun h => hfx k (by omega)
  by_cases hlt : (k : Int) < xs.length
  · repeat' first | (with_reducible (show W _ _ _ _ _); with_reducible refine go2 ?_) | (with_reducible (show W _ _ _ _ _); with_reducible refine sg2 ?_ ?_ <;> intro _) | (with_reducible (show W _ _ _ _ _); with_reducible refine sc2 ?_ ?_ <;> intro _) | (with_reducible (show CallK _ _ _ _ _ _ _ _ _ _ _); with_reducible refine ce2 (finite_spec _ _) ?_) | (with_reducible (show W _ _ (.code (.region 12 _ true) :: _) _ _); with_reducible refine W_draw [(0, []), (1, []), (3, []), (4, []), (5, []), (2, [5]), (6, [5]), (7, []), (8, []), (9, [])] [5] (by kernel_rfl) ?_) | (with_reducible (show W _ _ (.code (.region 23 _ true) :: _) _ _); with_reducible refine W_draw [(0, []), (1, []), (2, []), (3, []), (4, [1]), (5, []), (6, []), (7, []), (8, [])] [1] (by kernel_rfl) ?_)
    · exact ⟨j - 1, by omega, k + 1, by omega, by rw [wrap_suc (n := (xs.length : Int)) (by assumption) (by omega)]⟩
  clear f9
  repeat' first | (with_reducible (show W _ _ _ _ _); with_reducible refine go2 ?_) | (with_reducible (show W _ _ _ _ _); with_reducible refine sg2 ?_ ?_ <;> intro _) | (with_reducible (show W _ _ _ _ _); with_reducible refine sc2 ?_ ?_ <;> intro _) | (with_reducible (show CallK _ _ _ _ _ _ _ _ _ _ _); with_reducible refine ce2 (power_spec (hv1.app _) hl1) ?_) | (with_reducible (show CallK _ _ _ _ _ _ _ _ _ _ _); with_reducible refine ce2 (power_spec (hv.app _) hlen.2) ?_) | (with_reducible (show W _ _ (.code (.region 12 _ true) :: _) _ _); with_reducible refine W_draw [(0, []), (1, []), (3, []), (4, []), (5, []), (2, [5]), (6, [5]), (7, []), (8, []), (9, [])] [5] (by kernel_rfl) ?_) | (with_reducible (show W _ _ (.code (.region 23 _ true) :: _) _ _); with_reducible refine W_draw [(0, []), (1, []), (2, []), (3, []), (4, [1]), (5, []), (6, []), (7, []), (8, [])] [1] (by kernel_rfl) ?_) | ((with_reducible (show CallK _ _ _ _ _ _ _ _ _ _ _); with_reducible refine cm2 (none_spec (n := (xs.length : Int)) (N := xs.length) (by omega) (by omega) _) ?_))
  all_goals first
    | exact ⟨⟨genZ xs.length, 0, xs.length, xs.getD 0 0, 0⟩, H.length + 1, ⟨genZ_len _, genZ_in _, Nat.le_refl _⟩, rfl, by omega, hget_newL rfl, (Old.refl H).app _⟩
    | skip
  rename_i hb1 hb2 hb3
  have hn2 : 2 ≤ xs.length := by
    rcases Nat.lt_or_ge xs.length 2 with h | h
    · have : xs.tail = [] := List.eq_nil_of_length_eq_zero (by rw [List.length_tail]; omega)
      rw [this] at hb2
      exact absurd hb2 (by decide)
    · exact h
  (with_reducible (show CallK _ _ _ _ _ _ _ _ _ _ _)); with_reducible refine cx2 (vunit_spec (Sl.app hv _) hI _ hlen) ?_
  rintro u' H' ⟨cu, hcu, rfl, rfl⟩
  have hUl := unitL_len xs (powerM xs).1
  have hUI := unitL_in hI (powerM xs).1
  generalize hUe : unitL xs (powerM xs).1 = U at hUl hUI
  have hlenU : 0 < U.length ∧ U.length ≤ 1000000 := by omega
  have hUcell : ∀ i : Nat, i < U.length → (U.map u64)[i]? = some (u64 (U.getD i 0)) := fun i h => by simp [List.getD_eq_getElem?_getD, h]
  have hvU : ∀ (a : Option MO) (L : MH), Sl (H ++ a :: some ⟨U.map u64, true⟩ :: L) (.slice (H.length + 1) 0 xs.length cu 1) U := fun a L => .inr ⟨H.length + 1, 0, cu, _, by rw [hUl], hget_newL rfl, fun i hi => by rw [Nat.zero_add]; exact hUcell i hi⟩
  have hU0 := getD_in hUI 0
  have hnr := nrm2M_in U
  have e0 : (U.map u64)[0]? = some (u64 (U.getD 0 0)) := hUcell 0 (by omega)
  have hcell : ∀ (a b : Option MO) (g : Int) (L : MH), hget (H ++ a :: b :: some ⟨[u8 g], true⟩ :: L) (H.length + 2) = some ⟨[u8 g], true⟩ := fun a b g L => hget_new (i := 2)
  have s2 : (cu = 1) = False := eq_false (by omega)
  have hbs : ∀ x : Int, bsV (.slice 1 8 (some [.int .u64 0]) true) 1 [(0, u64 x)] = some ([u64 x], 1) := fun x => _root_.id rfl
  have hsub : ∀ a b : Int, InU a → InU (addM a (flipM b)).1 := fun a b h => addM_in h (flip_in b)
  repeat' first | (with_reducible (show W _ _ _ _ _); with_reducible refine go2 ?_) | (with_reducible (show W _ _ _ _ _); with_reducible refine sg2 ?_ ?_ <;> intro _) | (with_reducible (show W _ _ _ _ _); with_reducible refine sc2 ?_ ?_ <;> intro _) | (with_reducible (show CallK _ _ _ _ _ _ _ _ _ _ _); with_reducible refine ce2 (nrm2_spec (hvU _ _) hUI hlenU) ?_) | (with_reducible (show CallK _ _ _ _ _ _ _ _ _ _ _); with_reducible refine ce2 (neg_spec _ _) ?_) | (with_reducible (show CallK _ _ _ _ _ _ _ _ _ _ _); with_reducible refine ce2 (flip_spec _ _) ?_) | (with_reducible (show W _ _ (.code (.region 12 _ true) :: _) _ _); with_reducible refine W_draw [(0, []), (1, []), (3, []), (4, []), (5, []), (2, [5]), (6, [5]), (7, []), (8, []), (9, [])] [5] (by kernel_rfl) ?_) | (with_reducible (show W _ _ (.code (.region 23 _ true) :: _) _ _); with_reducible refine W_draw [(0, []), (1, []), (2, []), (3, []), (4, [1]), (5, []), (6, []), (7, []), (8, [])] [1] (by kernel_rfl) ?_) | ((with_reducible (show CallK _ _ _ _ _ _ _ _ _ _ _); first | (with_reducible refine cM (csub_spec (by first | exact hnr | exact flip_in _ | exact hU0) _ _ (hcell _ _ _ _)) ?_) | (with_reducible refine cx2 (cdiv_ex (hsub _ _ (by first | exact hnr | exact flip_in _)) (by first | exact hnr | exact flip_in _) _ (hcell _ _ _ _)) ?_; rintro u' H' ⟨⟨tau, g1⟩, htau, rfl, rfl⟩)))
  all_goals refine W_for (fun j ρ C => ∃ (k : Nat) (beta d : Int) (L : List Int) (w : MV), InU beta ∧ InU d ∧ k + j = xs.length - 1 ∧ L.length = k + 1 ∧ InD L ∧ ρ 2 = .ptr H.length 0 ∧ ρ 8 = i64 (powerM xs).1 ∧ ρ 13 = u64 beta ∧ ρ 14 = .ptr (H.length + 2) 0 ∧ ρ 15 = .ptr (H.length + 4) 0 ∧ ρ 16 = u64 d ∧
      ρ 92 = .slice (H.length + 1) 1 (xs.length - 1) (cu - 1) 1 ∧ ρ 93 = i64 ((xs.length - 1 : Nat) : Int) ∧ ρ 94 = i64 (k : Int) ∧ Gd H U L tau C w w) (xs.length - 1) ?_ ?_
  refine ⟨0, _, _, [4607182418800017408], .slice (H.length + 3) 0 1 1 1, ?_, ?_, by omega, rfl, ?_, h2, rfl, rfl, rfl, rfl, rfl, rfl, rfl, rfl, ?_⟩
  · first
      | exact hnr
      | exact flip_in _
  · exact hsub _ _ hU0
  · intro x hx
    simp only [List.mem_singleton] at hx
    subst hx
    constructor <;> decide
  · exact ⟨(Old.refl H).app _, hget_new', hget_newL rfl, ⟨_, hget_newL rfl⟩, hget_newL rfl, H.length + 3, 1, rfl, Nat.le_refl _, hget_newL rfl, by omega, by omega⟩
  rotate_left
  refine ⟨0, _, _, [4607182418800017408], .slice (H.length + 3) 0 1 1 1, ?_, ?_, by omega, rfl, ?_, h2, rfl, rfl, rfl, rfl, rfl, rfl, rfl, rfl, ?_⟩
  · first
      | exact hnr
      | exact flip_in _
  · exact hsub _ _ hU0
  · intro x hx
    simp only [List.mem_singleton] at hx
    subst hx
    constructor <;> decide
  · exact ⟨(Old.refl H).app _, hget_new', hget_newL rfl, ⟨_, hget_newL rfl⟩, hget_newL rfl, H.length + 3, 1, rfl, Nat.le_refl _, hget_newL rfl, by omega, by omega⟩
  all_goals clear hnr hcell
  all_goals rintro j ρ C ⟨k, beta, d, L, w, hbeta, hd, hk, hL, hLI, h2, h8, h13, h14, h15, h16, h92, h93, h94, hC⟩
  all_goals have cr := hC.cr
  all_goals have c0 := hC.c0
  all_goals have cU := hC.cU
  all_goals obtain ⟨g0, cg⟩ := hC.cg
  all_goals have f3 : ∀ m : Nat, (0 ≤ (m : Int)) = True := fun m => eq_true (by omega)
  all_goals have f5 : ∀ m : Nat, (m : Int).toNat = m := fun m => Int.toNat_natCast m
  all_goals have f6 : ∀ m : Nat, m * 1 = m := Nat.mul_one
  all_goals have f7 : (k : Int) < ((xs.length - 1 : Nat) : Int) → (U.map u64)[1 + k]? = some (u64 (U.getD (1 + k) 0)) := fun h => hUcell _ (by omega)
  all_goals have hin := getD_in hUI (1 + k)
  all_goals have e1 : (k : Int) < ((xs.length - 1 : Nat) : Int) → IntKind.i64.wrap ((k : Int) + 1) = ((k + 1 : Nat) : Int) := fun h => by rw [wrap_i64 (by omega)]; omega
  all_goals have hty : (ty Try.prog 22).k = .slice 1 8 (some [.int .u64 0]) true := by rw [ty_22]
  all_goals have hCl := lt_of_hget cr
  all_goals have how := hC.ones
  all_goals have t0 : ∀ x, hget (C.set H.length x) H.length = x := fun x => hget_set_same (by omega) _
  all_goals have hheld : ∀ g2 : Int, held Try.prog [1] (C.set (H.length + 2) (some ⟨[u8 g2], true⟩)) [(1, HF.load 22 (.ptr (H.length + 4) 0) w)] := fun g2 => (by have := (hget_set_ne (show H.length + 2 ≠ H.length + 4 by omega) (some ⟨[u8 g2], true⟩)).trans cr; simp [held_cons, sem_load, held_nil, loadV_ptr, ty_22, this])
  all_goals (repeat' first | (with_reducible (show W _ _ _ _ _); with_reducible refine go2 ?_) | (with_reducible (show W _ _ _ _ _); with_reducible refine sg2 ?_ ?_ <;> intro _) | (with_reducible (show W _ _ _ _ _); with_reducible refine sc2 ?_ ?_ <;> intro _) | (with_reducible (show CallK _ _ _ _ _ _ _ _ _ _ _); with_reducible refine ce2 (scale_spec hbeta _ _) ?_) | (with_reducible (show W _ _ (.code (.region 12 _ true) :: _) _ _); with_reducible refine W_draw [(0, []), (1, []), (3, []), (4, []), (5, []), (2, [5]), (6, [5]), (7, []), (8, []), (9, [])] [5] (by kernel_rfl) ?_) | (with_reducible (show W _ _ (.code (.region 23 _ true) :: _) _ _); with_reducible refine W_draw [(0, []), (1, []), (2, []), (3, []), (4, [1]), (5, []), (6, []), (7, []), (8, [])] [1] (by kernel_rfl) ?_) | (first | (with_reducible (show CallK _ _ _ _ _ _ _ _ _ _ _); with_reducible refine cxh (cdiv_ex hin hd _ cg) ?_; rintro u' H' ⟨⟨q, g2⟩, hq, rfl, rfl⟩; refine ⟨hheld g2, ?_⟩) | (with_reducible (show AppK _ _ _ _ _ _ _ _ _ _); with_reducible refine app_gd (hC.met _) (by omega) hty (by simp) ?_; rintro v' C' hC'; have cr' := hC'.cr; have hcm := hC'.cells; have hon := hC'.ones)))
  all_goals first
    | (refine ⟨j - 1, by omega, k + 1, beta, d, L ++ [q], v', hbeta, hd, by omega, by simp; omega, ?_, rfl, rfl, rfl, hC'.put⟩
       intro x hx
       rcases List.mem_append.1 hx with h | h
       · exact hLI x h
       · simp only [List.mem_singleton] at h
         subst h; exact hq)
    | (obtain ⟨px, cc, hw, hcl, hpx, l1, l2⟩ := hC.cv
       have hLx : L.length = xs.length := by omega
       refine ⟨⟨L, tau, cc, (scaleM beta (powerM xs).1).1, (scaleM beta (powerM xs).1).2⟩, px, ⟨hLx, hLI, (by show xs.length ≤ cc; omega)⟩, ?_, by omega, (hget_set_ne (by omega) _).trans hpx, hC.old.setq _ (Nat.le_refl _)⟩
       rw [hw, hLx]; done)
end Go.Proofs.Ytamoljalficfgaa.M
