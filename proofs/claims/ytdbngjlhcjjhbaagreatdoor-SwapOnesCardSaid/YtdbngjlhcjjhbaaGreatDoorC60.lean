/- swap.fits, Adjacent and Select: what can't be; nothing wished. -/
import Derived.Test.YtdbngjlhcjjhbaaGreatDoorC44
set_option linter.unusedSimpArgs false
set_option linter.unusedVariables false
set_option pp.deepTerms false
set_option pp.maxSteps 1500
set_option maxRecDepth 10000
set_option maxHeartbeats 16000000
namespace Go.Proofs.YtdbngjlhcjjhbaaGreatDoor.M
open Go Go.Proofs

/-- Facts take the memory's place. -/
theorem W_memQ {P : Program} {Q : MQ} {k : List It} {ρ : Env} {H : MH} (S : MH → Prop) (hS : S H) (h : ∀ C, S C → W P Q k ρ C) : W P Q k ρ H := h H hS
theorem CallK_memQ {P : Program} {Q : MQ} {f : MV} {args : List MV} {d L l F k ρ} {H : MH} (S : MH → Prop) (hS : S H) (h : ∀ C, S C → CallK P Q f args d L l F k ρ C) : CallK P Q f args d L l F k ρ H := h H hS
theorem pv_field {x : Operand} {ρ : Env} : pureV Tryz.prog (.field 25 x 3) ρ = (match ev ρ x with | .agg vs => vs[3]? | _ => none) := by
  have hu := Tryz.underlying25
  unfold pureV
  dsimp only
  rw [hu]
  cases ev ρ x <;> simp [partM, ty_22]
theorem W_fieldQ {P : Program} {Q : MQ} {i L r d l F k ρ H} {t : TypeId} {x : Operand} {j : Nat} : W P Q (.run (⟨i, L, r, d, .field t x j, none⟩ :: l) F :: k) ρ H = ((pureV P (.field t x j) ρ).isSome = true ∧ W P Q (.run l F :: k) (put ρ d ((pureV P (.field t x j) ρ).getD default)) H) := by rw [W_pure rfl]
theorem sl_of {H : MH} {p c : Nat} {xs : List Int} {rw : Bool} {N : Nat} (hp : hget H p = some ⟨xs.map u64, rw⟩) (hN : xs.length = N) : Sl H (.slice p 0 N c 1) xs := by
  subst hN
  refine .inr ⟨p, 0, c, _, rfl, hp, fun i hi => ?_⟩
  rw [Nat.zero_add]
  simp [List.getD_eq_getElem?_getD, hi]
theorem Ls.set_lt {B C : MH} {z : Nat} {cs : List MV} {m : Nat} {v : MV} (h : Ls B C z cs m v) {q : Nat} (hq : q < B.length) (x : Option MO) : Ls B (C.set q x) z cs m v := by
  refine ⟨h.1, ?_⟩
  rcases h.2 with h | ⟨px, c, h1, h2, h3, h4⟩
  · exact .inl h
  · exact .inr ⟨px, c, h1, h2, (hget_set_ne (by omega) _).trans h3, h4⟩
theorem blk_all {n : Int} {D : List Int} {L : List Nat} (h : blocksM n D = some L) : L.length ≤ n.toNat ∧ ∀ x ∈ L, (x : Int) < n := by
  unfold blocksM at h
  split at h
  · exact ⟨by have := blk_len h; omega, fun x hx => blk_lt h x hx⟩
  · cases h
theorem fits_shape {n : Int} {p z : Nat} {D : List Int} (h : MatOk n n D) (hn8 : n ≤ 100) {N : Nat} (hN : D.length = N) {H : MH} {rw : Bool} (hp : hget H p = some ⟨D.map u64, rw⟩) (hb : (blocksM n D).isSome = true)
    {r c : Int} {q y M : Nat} {E : List Int} (hE : MatOk r c E) (hM : E.length = M) (hc : ¬ c = n) :
    Spec Tryz.prog 23 [mx n n n p N z, mx r c c q M y] H fun u H' => u = .tup [nils, i64 4] ∧ H' = H := by
  refine Spec.scalar (enterS Tryz.func23 [.tmp 4, .tmp 5] ?_)
  repeat' first | (with_reducible (show W _ _ _ _ _); with_reducible refine go2 ?_) | (with_reducible (show W _ _ _ _ _); with_reducible refine sg2 ?_ ?_ <;> intro _) | (with_reducible (show W _ _ _ _ _); with_reducible refine sc2 ?_ ?_ <;> intro _) | (with_reducible (show CallK _ _ _ _ _ _ _ _ _ _ _); with_reducible refine ce2 (check_ok hE hM _) ?_) | ((with_reducible (show CallK _ _ _ _ _ _ _ _ _ _ _); with_reducible refine cx2 (blocks_spec h hn8 hN (hget_appL hp)) ?_; rintro u' H' ⟨v, J, rfl, rfl, hv⟩))
  all_goals first
    | trivial
    | exact absurd (by assumption) (by simp_all)
theorem fits_plain {n : Int} {p z : Nat} {D : List Int} (h : MatOk n n D) (hn8 : n ≤ 100) {N : Nat} (hN : D.length = N) {H : MH} {rw : Bool} (hp : hget H p = some ⟨D.map u64, rw⟩) (hb : (blocksM n D).isSome = true)
    {r : Int} {q y M : Nat} {E : List Int} {rw' : Bool} (hE : MatOk r n E) (hM : E.length = M) (hq : hget H q = some ⟨E.map u64, rw'⟩) (hf : finD E = false) :
    Spec Tryz.prog 23 [mx n n n p N z, mx r n n q M y] H fun u H' => u = .tup [nils, i64 6] ∧ H' = H := by
  refine Spec.scalar (enterS Tryz.func23 [.tmp 4, .tmp 5] ?_)
  repeat' first | (with_reducible (show W _ _ _ _ _); with_reducible refine go2 ?_) | (with_reducible (show W _ _ _ _ _); with_reducible refine sg2 ?_ ?_ <;> intro _) | (with_reducible (show W _ _ _ _ _); with_reducible refine sc2 ?_ ?_ <;> intro _) | (with_reducible (show CallK _ _ _ _ _ _ _ _ _ _ _); with_reducible refine ce2 (check_ok hE hM _) ?_) | (with_reducible (show CallK _ _ _ _ _ _ _ _ _ _ _); with_reducible refine ce2 (finite_mspec h hN (hget_appL hp)) ?_) | (with_reducible (show CallK _ _ _ _ _ _ _ _ _ _ _); with_reducible refine ce2 (finite_mspec hE hM (hget_appL hq)) ?_) | ((with_reducible (show CallK _ _ _ _ _ _ _ _ _ _ _); with_reducible refine cx2 (blocks_spec h hn8 hN (hget_appL hp)) ?_; rintro u' H' ⟨v, J, rfl, rfl, hv⟩))
  all_goals first
    | trivial
    | exact absurd (by assumption) (by simp_all)
/-- The bounds that a matrix and one that goes with it are to keep. -/
def Bd (D E : List Int) : Prop := ((powerM D).2 = true → -100 ≤ (powerM D).1 ∧ (powerM D).1 ≤ 100) ∧ (powerM E).1 ≤ 100
theorem fits_ok {n : Int} {p z : Nat} {D : List Int} (h : MatOk n n D) (hn8 : n ≤ 100) {N : Nat} (hN : D.length = N) {H : MH} {rw : Bool} (hp : hget H p = some ⟨D.map u64, rw⟩) {L : List Nat} (hb : blocksM n D = some L) (hfD : finD D = true)
    {r : Int} {q y M : Nat} {E : List Int} {rw' : Bool} (hE : MatOk r n E) (hr : r ≤ 100) (hM : E.length = M) (hq : hget H q = some ⟨E.map u64, rw'⟩) (hfE : finD E = true) (hB : Bd D E) :
    Spec Tryz.prog 23 [mx n n n p N z, mx r n n q M y] H fun u H' => ∃ (v : MV) (J : MH), u = .tup [v, i64 0] ∧ H' = H ++ J ∧ Ls H (H ++ J) 1 (ints L) L.length v := by
  have hlD : D.length ≤ 1000000 := by
    rw [h.len]
    have := h.r0
    have h2 : n * n ≤ 100 * 100 := Int.mul_le_mul hn8 hn8 this (by omega)
    omega
  have hlE : E.length ≤ 1000000 := by
    rw [hE.len]
    have := h.r0
    have h2 : r * n ≤ 100 * 100 := Int.mul_le_mul hr hn8 this (by omega)
    omega
  have hsp := Spec.lst (P := Tryz.prog) (f := 23) (args := [mx n n n p N z, mx r n n q M y]) (H := H) (G := fun _ : Unit => True) (r := fun _ v => .tup [v, i64 0]) (cs := fun _ => ints L) (m := fun _ => L.length) (z := 1)
    (fun _ => closed_ints _) (fun n ps t v hv => by simp [Cl, Cls', hv]) (fun π t v => by simp [ren, rens]) ?_
  · refine Spec.mono hsp ?_
    rintro u H' ⟨_, v, J, _, h1, h2, h3⟩
    exact ⟨v, J, h1, h2, h3⟩
  have hbs := fun L' => blocks_spec h hn8 hN (z := z) (hget_appL (L := L') hp)
  rw [hb] at hbs
  refine enterS Tryz.func23 [.tmp 4, .tmp 5] ?_
  repeat' first | (with_reducible (show W _ _ _ _ _); with_reducible refine go2 ?_) | (with_reducible (show W _ _ _ _ _); with_reducible refine sg2 ?_ ?_ <;> intro _) | ((with_reducible (show CallK _ _ _ _ _ _ _ _ _ _ _); with_reducible refine cx2 (hbs _) ?_; rintro u' H' ⟨v, J, rfl, rfl, hv⟩))
  simp only [Option.getD_some, Option.isSome_some] at hv ⊢
  refine CallK_memQ (fun C => Old H C ∧ hget C H.length = some ⟨[i64 n, i64 n, i64 n, .slice p 0 N z 1], true⟩ ∧ hget C (H.length + 1) = some ⟨[i64 r, i64 n, i64 n, .slice q 0 M y 1], true⟩ ∧ Ls H C 1 (ints L) L.length v) ⟨?_, ?_, ?_, ?_⟩ ?_
  · exact (Old.refl H).app _
  · exact hget_new'
  · exact hget_new
  · have := hv.less
    simpa using this
  rintro C ⟨hO, hb1, hb2, hv⟩
  clear hbs
  have f1 : ∀ L', Spec Tryz.prog 21 [mx n n n p N z] (C ++ L') fun v H' => v = bl true ∧ H' = C ++ L' := fun L' => by have := finite_mspec h hN (z := z) (hget_appL (L := L') (hO.get hp)); rwa [hfD] at this
  have f2 : ∀ L', Spec Tryz.prog 21 [mx r n n q M y] (C ++ L') fun v H' => v = bl true ∧ H' = C ++ L' := fun L' => by have := finite_mspec hE hM (z := y) (hget_appL (L := L') (hO.get hq)); rwa [hfE] at this
  have f1' := f1 []
  have f2' := f2 []
  rw [List.append_nil] at f1' f2'
  have g1 := lt_of_hget hb1
  have g2 := lt_of_hget hb2
  have hbL1 : ∀ L', hget (C ++ L') H.length = _ := fun L' => hget_appL hb1
  have hbL2 : ∀ L', hget (C ++ L') (H.length + 1) = _ := fun L' => hget_appL hb2
  have hvL : ∀ L', Ls H (C ++ L') 1 (ints L) L.length v := fun L' => hv.app L'
  obtain ⟨hB1, hB2⟩ := hB
  have c3 : (100 < (powerM E).1) = False := eq_false (by omega)
  cases hPD : (powerM D).2 with
  | true =>
    obtain ⟨hB3, hB4⟩ := hB1 hPD
    have c1 : (100 < (powerM D).1) = False := eq_false (by omega)
    have c2 : ((powerM D).1 < -100) = False := eq_false (by omega)
    repeat' first | (with_reducible (show W _ _ _ _ _); with_reducible refine go2 ?_) | (with_reducible (show W _ _ _ _ _); with_reducible refine sg2 ?_ ?_ <;> intro _) | (with_reducible (show W _ _ _ _ _); with_reducible refine sc2 ?_ ?_ <;> intro _) | (with_reducible (show CallK _ _ _ _ _ _ _ _ _ _ _); with_reducible refine ce2 (check_ok hE hM _) ?_) | (with_reducible (show CallK _ _ _ _ _ _ _ _ _ _ _); with_reducible refine ce2 (f1') ?_) | (with_reducible (show CallK _ _ _ _ _ _ _ _ _ _ _); with_reducible refine ce2 (f2') ?_) | (with_reducible (show CallK _ _ _ _ _ _ _ _ _ _ _); with_reducible refine ce2 (power_spec (sl_of hget_new' hN) hlD) ?_) | (with_reducible (show CallK _ _ _ _ _ _ _ _ _ _ _); with_reducible refine ce2 (power_spec (sl_of (hget_newL rfl) hM) hlE) ?_) | ((with_reducible (show CallK _ _ _ _ _ _ _ _ _ _ _); first | (with_reducible refine cm2 (clone_spec h hN (hO.get hp)) ?_) | (with_reducible refine cm2 (clone_spec hE hM (hget_appL (hO.get hq))) ?_))) | (rw [W_fieldQ, pv_field]; refine goA2 ?_)
    exact ⟨(), v, rfl, (hvL _), (hO.app _)⟩
  | false =>
    repeat' first | (with_reducible (show W _ _ _ _ _); with_reducible refine go2 ?_) | (with_reducible (show W _ _ _ _ _); with_reducible refine sg2 ?_ ?_ <;> intro _) | (with_reducible (show W _ _ _ _ _); with_reducible refine sc2 ?_ ?_ <;> intro _) | (with_reducible (show CallK _ _ _ _ _ _ _ _ _ _ _); with_reducible refine ce2 (check_ok hE hM _) ?_) | (with_reducible (show CallK _ _ _ _ _ _ _ _ _ _ _); with_reducible refine ce2 (f1') ?_) | (with_reducible (show CallK _ _ _ _ _ _ _ _ _ _ _); with_reducible refine ce2 (f2') ?_) | (with_reducible (show CallK _ _ _ _ _ _ _ _ _ _ _); with_reducible refine ce2 (power_spec (sl_of hget_new' hN) hlD) ?_) | (with_reducible (show CallK _ _ _ _ _ _ _ _ _ _ _); with_reducible refine ce2 (power_spec (sl_of (hget_newL rfl) hM) hlE) ?_) | ((with_reducible (show CallK _ _ _ _ _ _ _ _ _ _ _); first | (with_reducible refine cm2 (clone_spec h hN (hO.get hp)) ?_) | (with_reducible refine cm2 (clone_spec hE hM (hget_appL (hO.get hq))) ?_))) | (rw [W_fieldQ, pv_field]; refine goA2 ?_)
    exact ⟨(), v, rfl, (hvL _), (hO.app _)⟩
/-- A matrix and one that goes with it aren't such: no two blocks change places, none goes ahead. -/
theorem adj_er {t z : MV} {e at_ : Int} (he : ¬ e = 0) {ct cz : List MV} (ht : t = .agg ct) (hz : z = .agg cz) (h4 : ct.length = 4 ∧ ct.all one = true ∧ cz.length = 4 ∧ cz.all one = true) {H : MH} (hf : ∀ L : MH, Spec Tryz.prog 23 [t, z] (H ++ L) fun u H' => u = .tup [nils, i64 e] ∧ H' = H ++ L) :
    Spec Tryz.prog 9 [t, z, i64 at_] H fun u H' => u = .tup [mx0, mx0, i64 e] ∧ H' = H := by
  subst ht hz
  obtain ⟨h1, h2, h3, h4⟩ := h4
  match ct, h1, cz, h3 with
  | [a1, a2, a3, a4], _, [b1, b2, b3, b4], _ =>
  simp only [List.all_cons, List.all_nil, Bool.and_true, Bool.and_eq_true] at h2 h4
  obtain ⟨o1, o2, o3, o4⟩ := h2
  obtain ⟨u1, u2, u3, u4⟩ := h4
  refine Spec.scalar (enterS Tryz.func9 [.cell 6 25, .cell 7 25, .tmp 8] ?_)
  repeat' first | (with_reducible (show W _ _ _ _ _); with_reducible refine go2 ?_) | (with_reducible (show W _ _ _ _ _); with_reducible refine sg2 ?_ ?_ <;> intro _) | (with_reducible (show W _ _ _ _ _); with_reducible refine sc2 ?_ ?_ <;> intro _) | (with_reducible (show W _ _ (.code (.region 10 _ true) :: _) _ _); with_reducible refine W_draw [(0, []), (1, []), (2, []), (3, []), (4, []), (5, []), (8, []), (9, []), (6, [9]), (7, []), (10, []), (11, [])] [9] (by kernel_rfl) ?_) | ((with_reducible (show CallK _ _ _ _ _ _ _ _ _ _ _); with_reducible refine cm2 (hf _) ?_))
  all_goals trivial
theorem sel_er {t z w : MV} {e : Int} (he : ¬ e = 0) {ct cz : List MV} (ht : t = .agg ct) (hz : z = .agg cz) (h4 : ct.length = 4 ∧ ct.all one = true ∧ cz.length = 4 ∧ cz.all one = true) {H : MH} (hf : ∀ L : MH, Spec Tryz.prog 23 [t, z] (H ++ L) fun u H' => u = .tup [nils, i64 e] ∧ H' = H ++ L) :
    Spec Tryz.prog 12 [t, z, w] H fun u H' => u = .tup [mx0, mx0, i64 0, i64 e] ∧ H' = H := by
  subst ht hz
  obtain ⟨h1, h2, h3, h4⟩ := h4
  match ct, h1, cz, h3 with
  | [a1, a2, a3, a4], _, [b1, b2, b3, b4], _ =>
  simp only [List.all_cons, List.all_nil, Bool.and_true, Bool.and_eq_true] at h2 h4
  obtain ⟨o1, o2, o3, o4⟩ := h2
  obtain ⟨u1, u2, u3, u4⟩ := h4
  refine Spec.scalar (enterS Tryz.func12 [.cell 6 25, .cell 7 25, .tmp 8, .tmp 9] ?_)
  repeat' first | (with_reducible (show W _ _ _ _ _); with_reducible refine go2 ?_) | (with_reducible (show W _ _ _ _ _); with_reducible refine sg2 ?_ ?_ <;> intro _) | (with_reducible (show W _ _ _ _ _); with_reducible refine sc2 ?_ ?_ <;> intro _) | (with_reducible (show W _ _ (.code (.region 6 _ true) :: _) _ _); with_reducible refine W_draw [(0, []), (2, []), (1, [2]), (3, []), (4, []), (5, [])] [2] (by kernel_rfl) ?_) | (with_reducible (show W _ _ (.code (.region 20 _ true) :: _) _ _); with_reducible refine W_draw [(0, []), (1, []), (2, []), (3, []), (4, [1]), (5, []), (6, []), (7, [])] [1] (by kernel_rfl) ?_) | (with_reducible (show W _ _ (.code (.region 21 _ true) :: _) _ _); with_reducible refine W_draw [(0, []), (1, []), (2, []), (3, []), (4, [2]), (5, [])] [2] (by kernel_rfl) ?_) | (with_reducible (show W _ _ (.code (.region 24 _ true) :: _) _ _); with_reducible refine W_draw [(0, []), (1, []), (2, []), (3, [1]), (4, []), (5, []), (6, [])] [1] (by kernel_rfl) ?_) | ((with_reducible (show CallK _ _ _ _ _ _ _ _ _ _ _); with_reducible refine cm2 (hf _) ?_))
  all_goals trivial
theorem sel_arg {n : Int} {p z : Nat} {D : List Int} (h : MatOk n n D) (hn8 : n ≤ 100) {N : Nat} (hN : D.length = N) {H : MH} {rw : Bool} (hp : hget H p = some ⟨D.map u64, rw⟩) {L : List Nat} (hb : blocksM n D = some L) (hfD : finD D = true)
    {r : Int} {q y M : Nat} {E : List Int} {rw' : Bool} (hE : MatOk r n E) (hr : r ≤ 100) (hM : E.length = M) (hq : hget H q = some ⟨E.map u64, rw'⟩) (hfE : finD E = true) (hB : Bd D E) {w m c : Nat} (hm : ¬ (m : Int) = n) :
    Spec Tryz.prog 12 [mx n n n p N z, mx r n n q M y, .slice w 0 m c 1] H fun u H' => u = .tup [mx0, mx0, i64 0, i64 1] ∧ H' = H := by
  have hf := fun L' => fits_ok h hn8 hN (z := z) (hget_appL (L := L') hp) hb hfD hE hr hM (y := y) (hget_appL (L := L') hq) hfE hB
  refine Spec.scalar (enterS Tryz.func12 [.cell 6 25, .cell 7 25, .tmp 8, .tmp 9] ?_)
  repeat' first | (with_reducible (show W _ _ _ _ _); with_reducible refine go2 ?_) | (with_reducible (show W _ _ _ _ _); with_reducible refine sg2 ?_ ?_ <;> intro _) | (with_reducible (show W _ _ _ _ _); with_reducible refine sc2 ?_ ?_ <;> intro _) | (with_reducible (show W _ _ (.code (.region 6 _ true) :: _) _ _); with_reducible refine W_draw [(0, []), (2, []), (1, [2]), (3, []), (4, []), (5, [])] [2] (by kernel_rfl) ?_) | (with_reducible (show W _ _ (.code (.region 20 _ true) :: _) _ _); with_reducible refine W_draw [(0, []), (1, []), (2, []), (3, []), (4, [1]), (5, []), (6, []), (7, [])] [1] (by kernel_rfl) ?_) | (with_reducible (show W _ _ (.code (.region 21 _ true) :: _) _ _); with_reducible refine W_draw [(0, []), (1, []), (2, []), (3, []), (4, [2]), (5, [])] [2] (by kernel_rfl) ?_) | (with_reducible (show W _ _ (.code (.region 24 _ true) :: _) _ _); with_reducible refine W_draw [(0, []), (1, []), (2, []), (3, [1]), (4, []), (5, []), (6, [])] [1] (by kernel_rfl) ?_) | ((with_reducible (show CallK _ _ _ _ _ _ _ _ _ _ _); with_reducible refine cx2 (hf _) ?_; rintro u' H' ⟨v, J, rfl, rfl, hv⟩))
  all_goals first
    | trivial
    | (exfalso; omega)
theorem sel_none {n : Int} {p z : Nat} {D : List Int} (h : MatOk n n D) (hn8 : n ≤ 100) {N : Nat} (hN : D.length = N) {H : MH} {rw : Bool} (hp : hget H p = some ⟨D.map u64, rw⟩) {L : List Nat} (hb : blocksM n D = some L) (hfD : finD D = true)
    {r : Int} {q y M : Nat} {E : List Int} {rw' : Bool} (hE : MatOk r n E) (hr : r ≤ 100) (hM : E.length = M) (hq : hget H q = some ⟨E.map u64, rw'⟩) (hfE : finD E = true) (hB : Bd D E) {w m c : Nat} {rw'' : Bool} (hm : (m : Int) = n) (hw : hget H w = some ⟨List.replicate m (bl false), rw''⟩) :
    Spec Tryz.prog 12 [mx n n n p N z, mx r n n q M y, .slice w 0 m c 1] H fun u H' => u = .tup [mx n n n H.length N N, mx r n n (H.length + 1) M M, i64 0, i64 0] ∧ H' = H ++ [some ⟨D.map u64, true⟩, some ⟨E.map u64, true⟩] := by
  have hf := fun L' => fits_ok h hn8 hN (z := z) (hget_appL (L := L') hp) hb hfD hE hr hM (y := y) (hget_appL (L := L') hq) hfE hB
  obtain ⟨hLl, hLx⟩ := blk_all hb
  have hn0 := h.r0
  refine Spec.twoX (v := fun p p' => .tup [mx n n n p N N, mx r n n p' M M, i64 0, i64 0]) (closed_u64 _) (closed_u64 _) (fun p p' => by simp [Cl, Cls']) (fun π p p' _ _ => by simp [ren, rens]) ?_
  refine enterS Tryz.func12 [.cell 6 25, .cell 7 25, .tmp 8, .tmp 9] ?_
  repeat' first | (with_reducible (show W _ _ _ _ _); with_reducible refine go2 ?_) | (with_reducible (show W _ _ _ _ _); with_reducible refine sg2 ?_ ?_ <;> intro _) | (with_reducible (show W _ _ (.code (.region 6 _ true) :: _) _ _); with_reducible refine W_draw [(0, []), (2, []), (1, [2]), (3, []), (4, []), (5, [])] [2] (by kernel_rfl) ?_) | (with_reducible (show W _ _ (.code (.region 20 _ true) :: _) _ _); with_reducible refine W_draw [(0, []), (1, []), (2, []), (3, []), (4, [1]), (5, []), (6, []), (7, [])] [1] (by kernel_rfl) ?_) | (with_reducible (show W _ _ (.code (.region 21 _ true) :: _) _ _); with_reducible refine W_draw [(0, []), (1, []), (2, []), (3, []), (4, [2]), (5, [])] [2] (by kernel_rfl) ?_) | (with_reducible (show W _ _ (.code (.region 24 _ true) :: _) _ _); with_reducible refine W_draw [(0, []), (1, []), (2, []), (3, [1]), (4, []), (5, []), (6, [])] [1] (by kernel_rfl) ?_) | ((with_reducible (show CallK _ _ _ _ _ _ _ _ _ _ _); with_reducible refine cx2 (hf _) ?_; rintro u' H' ⟨v, J, rfl, rfl, hv⟩))
  refine CallK_memQ (fun C => Old H C ∧ hget C H.length = some ⟨[i64 n, i64 n, i64 n, .slice p 0 N z 1], true⟩ ∧ hget C (H.length + 1) = some ⟨[i64 r, i64 n, i64 n, .slice q 0 M y 1], true⟩ ∧ hget C (H.length + 2) = some ⟨[i64 0, i64 0, i64 0, nils], true⟩ ∧ hget C (H.length + 3) = some ⟨[i64 0, i64 0, i64 0, nils], true⟩ ∧ ∃ B : MH, B.length = H.length + 4 ∧ Ls B C 1 (ints L) L.length v) ⟨?_, ?_, ?_, ?_, ?_, _, ?_, (by have := hv; rw [List.append_assoc] at this; exact this)⟩ ?_
  · exact (Old.refl H).app _
  · exact hget_new'
  · exact hget_new
  · exact hget_new
  · exact hget_new
  · simp
  clear hv
  rintro C ⟨hO, hb1, hb2, hb3, hb4, B, hBl, hv⟩
  clear hf
  have g4 := lt_of_hget hb4
  have q1 : H.length < C.length := by omega
  have q2 : H.length + 1 < C.length := by omega
  have hbL2 : ∀ L', hget (C ++ L') (H.length + 1) = _ := fun L' => hget_appL hb2
  have hs1 : ∀ x, hget (C.set H.length x) (H.length + 1) = some ⟨[i64 r, i64 n, i64 n, .slice q 0 M y 1], true⟩ := fun x => (hget_set_ne (by omega) _).trans hb2
  have hlv : lenV Tryz.prog 48 v = some (i64 (L.length : Int)) := hv.len (by rw [ty_48])
  repeat' first | (with_reducible (show W _ _ _ _ _); with_reducible refine go2 ?_) | (with_reducible (show W _ _ _ _ _); with_reducible refine sg2 ?_ ?_ <;> intro _) | (with_reducible (show W _ _ (.code (.region 6 _ true) :: _) _ _); with_reducible refine W_draw [(0, []), (2, []), (1, [2]), (3, []), (4, []), (5, [])] [2] (by kernel_rfl) ?_) | (with_reducible (show W _ _ (.code (.region 20 _ true) :: _) _ _); with_reducible refine W_draw [(0, []), (1, []), (2, []), (3, []), (4, [1]), (5, []), (6, []), (7, [])] [1] (by kernel_rfl) ?_) | (with_reducible (show W _ _ (.code (.region 21 _ true) :: _) _ _); with_reducible refine W_draw [(0, []), (1, []), (2, []), (3, []), (4, [2]), (5, [])] [2] (by kernel_rfl) ?_) | (with_reducible (show W _ _ (.code (.region 24 _ true) :: _) _ _); with_reducible refine W_draw [(0, []), (1, []), (2, []), (3, [1]), (4, []), (5, []), (6, [])] [1] (by kernel_rfl) ?_) | ((with_reducible (show CallK _ _ _ _ _ _ _ _ _ _ _); first | (with_reducible refine cm2 (clone_spec h hN (hO.get hp)) ?_) | (with_reducible refine cm2 (clone_spec hE hM (hget_appL (hO.get hq))) ?_)))
  refine W_memQ (fun C2 => Old H C2 ∧ hget C2 H.length = some ⟨[i64 n, i64 n, i64 n, .slice C.length 0 N N 1], true⟩ ∧ hget C2 (H.length + 1) = some ⟨[i64 r, i64 n, i64 n, .slice (C.length + 1) 0 M M 1], true⟩ ∧ hget C2 (H.length + 2) = some ⟨[i64 0, i64 0, i64 0, nils], true⟩ ∧ hget C2 (H.length + 3) = some ⟨[i64 0, i64 0, i64 0, nils], true⟩ ∧ Ls B C2 1 (ints L) L.length v ∧ hget C2 C.length = some ⟨D.map u64, true⟩ ∧ hget C2 (C.length + 1) = some ⟨E.map u64, true⟩) ?_ ?_
  · have hO2 : Old H ((C.set H.length (some ⟨[i64 n, i64 n, i64 n, .slice C.length 0 N N 1], true⟩)).set (H.length + 1) (some ⟨[i64 r, i64 n, i64 n, .slice (C.length + 1) 0 M M 1], true⟩)) := (hO.setq _ (by omega)).setq _ (by omega)
    have hl : ((C.set H.length (some ⟨[i64 n, i64 n, i64 n, .slice C.length 0 N N 1], true⟩)).set (H.length + 1) (some ⟨[i64 r, i64 n, i64 n, .slice (C.length + 1) 0 M M 1], true⟩)).length = C.length := by rw [List.length_set, List.length_set]
    refine ⟨hO2.app _, hget_appL ((hget_set_ne (by omega) _).trans (hget_set_same (by omega) _)), hget_appL (hget_set_same (by rw [List.length_set]; omega) _), hget_appL ((hget_set_ne (by omega) _).trans ((hget_set_ne (by omega) _).trans hb3)), hget_appL ((hget_set_ne (by omega) _).trans ((hget_set_ne (by omega) _).trans hb4)), ((hv.set_lt (by omega) _).set_lt (by omega) _).app _, hget_newL' hl, hget_newL hl⟩
  rintro C2 ⟨hO2, hc1, hc2, hc3, hc4, hv2, hd1, hd2⟩
  have hCl : H.length + 4 ≤ C.length := by omega
  clear hb1 hb2 hb3 hb4 hv g4 q1 q2 hbL2 hs1
  refine W_for (fun j ρ C3 => ∃ k : Nat, k + j = L.length ∧ ρ 2 = .slice w 0 m c 1 ∧ ρ 3 = .ptr H.length 0 ∧ ρ 4 = .ptr (H.length + 1) 0 ∧ ρ 6 = .ptr (H.length + 2) 0 ∧ ρ 7 = .ptr (H.length + 3) 0 ∧ ρ 10 = v ∧ ρ 12 = i64 0 ∧ ρ 43 = v ∧ ρ 44 = i64 (L.length : Int) ∧ ρ 45 = i64 (k : Int) ∧ C3 = C2) L.length ?_ ?_
  · exact ⟨0, by omega, rfl, rfl, rfl, rfl, rfl, rfl, rfl, rfl, rfl, rfl, rfl⟩
  rintro j ρ C3 ⟨k, hk, h2, h3, h4, h6, h7, h10, h12, h43, h44, h45, rfl⟩
  have hwC := hO2.get hw
  have f3 : ∀ m : Nat, (0 ≤ (m : Int)) = True := fun m => eq_true (by omega)
  have f5 : ∀ m : Nat, (m : Int).toNat = m := fun m => Int.toNat_natCast m
  have f6 : ∀ m : Nat, m * 1 = m := Nat.mul_one
  have q3 : H.length + 2 < C3.length := lt_of_hget hc3
  have q4 : H.length + 3 < C3.length := lt_of_hget hc4
  by_cases hkl : k < L.length
  · have hia := hv2.ia hkl 8 (some [.int .i64 0]) true .i64
    have hld := hv2.ld (P := Tryz.prog) (t := 3) (by rw [ty_3]) (by rw [ty_3]) hkl (x := i64 ((L[k] : Nat) : Int)) (by simp [hkl])
    have hxn := hLx _ (List.getElem_mem hkl)
    generalize L[k] = x at hld hxn
    have hkl2 : ((k : Int) < (L.length : Int)) = True := eq_true (by omega)
    have ek : IntKind.i64.wrap ((k : Int) + 1) = ((k + 1 : Nat) : Int) := by rw [wrap_i64 (by omega)]; omega
    have ekx : IntKind.i64.wrap ((x : Int) + 1) = ((x + 1 : Nat) : Int) := by rw [wrap_i64 (by omega)]; omega
    have hxm : ((x : Int) < n) = True := eq_true (by omega)
    have hxr : (List.replicate m (bl false))[x]? = some (bl false) := by
      rw [List.getElem?_replicate, if_pos (by omega)]
    by_cases hk1 : k + 1 < L.length
    · have hia1 := hv2.ia hk1 8 (some [.int .i64 0]) true .i64
      have hld1 := hv2.ld (P := Tryz.prog) (t := 3) (by rw [ty_3]) (by rw [ty_3]) hk1 (x := i64 ((L[k + 1] : Nat) : Int)) (by simp [hk1])
      have hyn := hLx _ (List.getElem_mem hk1)
      generalize L[k + 1] = y' at hld1 hyn
      have hk12 : (((k + 1 : Nat) : Int) < (L.length : Int)) = True := eq_true (by omega)
      have hxm1 : IntKind.i64.wrap ((y' : Int) - x) = 2 → (((x + 1 : Nat) : Int) < n) = True := fun e => by
        rw [wrap_i64 (by omega)] at e
        exact eq_true (by omega)
      have hxr1 : IntKind.i64.wrap ((y' : Int) - x) = 2 → (List.replicate m (bl false))[x + 1]? = some (bl false) := fun e => by
        have := of_eq_true (hxm1 e)
        rw [List.getElem?_replicate, if_pos (by omega)]
      repeat' first | (with_reducible (show W _ _ _ _ _); with_reducible refine go2 ?_) | (with_reducible (show W _ _ _ _ _); with_reducible refine sg2 ?_ ?_ <;> intro _) | (with_reducible (show W _ _ _ _ _); with_reducible refine sc2 ?_ ?_ <;> intro _) | (with_reducible (show W _ _ (.code (.region 6 _ true) :: _) _ _); with_reducible refine W_draw [(0, []), (2, []), (1, [2]), (3, []), (4, []), (5, [])] [2] (by kernel_rfl) ?_) | (with_reducible (show W _ _ (.code (.region 20 _ true) :: _) _ _); with_reducible refine W_draw [(0, []), (1, []), (2, []), (3, []), (4, [1]), (5, []), (6, []), (7, [])] [1] (by kernel_rfl) ?_) | (with_reducible (show W _ _ (.code (.region 21 _ true) :: _) _ _); with_reducible refine W_draw [(0, []), (1, []), (2, []), (3, []), (4, [2]), (5, [])] [2] (by kernel_rfl) ?_) | (with_reducible (show W _ _ (.code (.region 24 _ true) :: _) _ _); with_reducible refine W_draw [(0, []), (1, []), (2, []), (3, [1]), (4, []), (5, []), (6, [])] [1] (by kernel_rfl) ?_)
      all_goals exact ⟨j - 1, by omega, k + 1, by omega, rfl⟩
    · have hk12 : (((k + 1 : Nat) : Int) < (L.length : Int)) = False := eq_false (by omega)
      have hxm1 : IntKind.i64.wrap (n - x) = 2 → (((x + 1 : Nat) : Int) < n) = True := fun e => by
        rw [wrap_i64 (by omega)] at e
        exact eq_true (by omega)
      have hxr1 : IntKind.i64.wrap (n - x) = 2 → (List.replicate m (bl false))[x + 1]? = some (bl false) := fun e => by
        have := of_eq_true (hxm1 e)
        rw [List.getElem?_replicate, if_pos (by omega)]
      repeat' first | (with_reducible (show W _ _ _ _ _); with_reducible refine go2 ?_) | (with_reducible (show W _ _ _ _ _); with_reducible refine sg2 ?_ ?_ <;> intro _) | (with_reducible (show W _ _ _ _ _); with_reducible refine sc2 ?_ ?_ <;> intro _) | (with_reducible (show W _ _ (.code (.region 6 _ true) :: _) _ _); with_reducible refine W_draw [(0, []), (2, []), (1, [2]), (3, []), (4, []), (5, [])] [2] (by kernel_rfl) ?_) | (with_reducible (show W _ _ (.code (.region 20 _ true) :: _) _ _); with_reducible refine W_draw [(0, []), (1, []), (2, []), (3, []), (4, [1]), (5, []), (6, []), (7, [])] [1] (by kernel_rfl) ?_) | (with_reducible (show W _ _ (.code (.region 21 _ true) :: _) _ _); with_reducible refine W_draw [(0, []), (1, []), (2, []), (3, []), (4, [2]), (5, [])] [2] (by kernel_rfl) ?_) | (with_reducible (show W _ _ (.code (.region 24 _ true) :: _) _ _); with_reducible refine W_draw [(0, []), (1, []), (2, []), (3, [1]), (4, []), (5, []), (6, [])] [1] (by kernel_rfl) ?_)
      all_goals exact ⟨j - 1, by omega, k + 1, by omega, rfl⟩
  · have hkl2 : ((k : Int) < (L.length : Int)) = False := eq_false (by omega)
    have hs2 : ∀ x, hget (C3.set (H.length + 2) x) (H.length + 3) = some ⟨[i64 0, i64 0, i64 0, nils], true⟩ := fun x => (hget_set_ne (by omega) _).trans hc4
    have hs3 : ∀ x, hget (C3.set (H.length + 2) x) (H.length + 1) = some ⟨[i64 r, i64 n, i64 n, .slice (C.length + 1) 0 M M 1], true⟩ := fun x => (hget_set_ne (by omega) _).trans hc2
    have hs4 : ∀ x y, hget ((C3.set (H.length + 2) x).set (H.length + 3) y) (H.length + 2) = x := fun x y => (hget_set_ne (by omega) _).trans (hget_set_same (by omega) _)
    have hs5 : ∀ x y, hget ((C3.set (H.length + 2) x).set (H.length + 3) y) (H.length + 3) = y := fun x y => hget_set_same (by rw [List.length_set]; omega) _
    repeat' first | (with_reducible (show W _ _ _ _ _); with_reducible refine go2 ?_) | (with_reducible (show W _ _ _ _ _); with_reducible refine sg2 ?_ ?_ <;> intro _) | (with_reducible (show W _ _ _ _ _); with_reducible refine sc2 ?_ ?_ <;> intro _) | (with_reducible (show W _ _ (.code (.region 6 _ true) :: _) _ _); with_reducible refine W_draw [(0, []), (2, []), (1, [2]), (3, []), (4, []), (5, [])] [2] (by kernel_rfl) ?_) | (with_reducible (show W _ _ (.code (.region 20 _ true) :: _) _ _); with_reducible refine W_draw [(0, []), (1, []), (2, []), (3, []), (4, [1]), (5, []), (6, []), (7, [])] [1] (by kernel_rfl) ?_) | (with_reducible (show W _ _ (.code (.region 21 _ true) :: _) _ _); with_reducible refine W_draw [(0, []), (1, []), (2, []), (3, []), (4, [2]), (5, [])] [2] (by kernel_rfl) ?_) | (with_reducible (show W _ _ (.code (.region 24 _ true) :: _) _ _); with_reducible refine W_draw [(0, []), (1, []), (2, []), (3, [1]), (4, []), (5, []), (6, [])] [1] (by kernel_rfl) ?_)
    exact ⟨C.length, C.length + 1, rfl, by omega, by omega, by omega, (hget_set_ne (by omega) _).trans ((hget_set_ne (by omega) _).trans hd1), (hget_set_ne (by omega) _).trans ((hget_set_ne (by omega) _).trans hd2), ((hO2.setq _ (by omega)).setq _ (by omega)).2⟩
end Go.Proofs.YtdbngjlhcjjhbaaGreatDoor.M
