/- schur.Turn: two rows and columns turned. -/
import Derived.Test.YtdbngjlhcjjhbaaGreatDoorC11
set_option linter.unusedSimpArgs false
set_option linter.unusedVariables false
set_option maxRecDepth 10000
set_option maxHeartbeats 8000000
namespace Go.Proofs.YtdbngjlhcjjhbaaGreatDoor.M
open Go Go.Proofs

def nt (g f : Int) : Int := bits .or .u8 g f
def ofM (c s x y : Int) : Int × Int := ((addM (mulM c x).1 (mulM s y).1).1, (addM (mulM c y).1 (flipM (mulM s x).1)).1)
def ofF (c s x y g : Int) : Int := bits .or .u8 (bits .or .u8 (bits .or .u8 (bits .or .u8 (bits .or .u8 (bits .or .u8 g (mulM c x).2) (mulM s y).2) (addM (mulM c x).1 (mulM s y).1).2) (mulM c y).2) (mulM s x).2) (addM (mulM c y).1 (flipM (mulM s x).1)).2
theorem of_nil (c s x y : Int) (H : MH) : Spec Tryz.prog 59 [.agg [u64 c, u64 s], nilp, u64 x, u64 y] H fun v H' => v = .tup [u64 (ofM c s x y).1, u64 (ofM c s x y).2] ∧ H' = H := by
  refine Spec.scalar (enterS Tryz.func59 [.tmp 8, .tmp 9] ?_)
  repeat' first | (with_reducible (show W _ _ _ _ _); with_reducible refine go2 ?_) | (with_reducible (show W _ _ _ _ _); with_reducible refine sg2 ?_ ?_ <;> intro _) | (with_reducible (show W _ _ _ _ _); with_reducible refine sc2 ?_ ?_ <;> intro _) | (with_reducible (show CallK _ _ _ _ _ _ _ _ _ _ _); with_reducible refine ce2 (cmul_nil _ _ _) ?_) | (with_reducible (show CallK _ _ _ _ _ _ _ _ _ _ _); with_reducible refine ce2 (cadd_nil (mulM_in _ _) (mulM_in _ _) _) ?_) | (with_reducible (show CallK _ _ _ _ _ _ _ _ _ _ _); with_reducible refine ce2 (csub_nil (mulM_in _ _) _ _) ?_) | (with_reducible (show W _ _ (.code (.region 1 _ true) :: _) _ _); with_reducible refine W_draw [(0, []), (1, []), (2, []), (3, []), (4, []), (6, []), (7, []), (8, []), (9, []), (12, []), (13, []), (14, []), (15, []), (16, []), (18, []), (19, []), (20, []), (21, []), (5, [8, 15, 20]), (10, [15, 20]), (11, [15, 20]), (17, [20]), (22, []), (23, []), (24, []), (25, [])] [8, 15, 20] (by kernel_rfl) ?_)
  all_goals simp [ofM, *]
theorem of_spec (c s x y g : Int) {H : MH} {p : Nat} (hp : hget H p = some ⟨[u8 g], true⟩) : Spec Tryz.prog 59 [.agg [u64 c, u64 s], .ptr p 0, u64 x, u64 y] H fun v H' => v = .tup [u64 (ofM c s x y).1, u64 (ofM c s x y).2] ∧ H' = H.set p (some ⟨[u8 (ofF c s x y g)], true⟩) := by
  have hpl := lt_of_hget hp
  refine Spec.wrote (by simp [Cl]) (by simp [Cl, Cls']) (enterS Tryz.func59 [.tmp 8, .tmp 9] ?_)
  repeat' first | (with_reducible (show W _ _ _ _ _); with_reducible refine go2 ?_) | (with_reducible (show W _ _ _ _ _); with_reducible refine sg2 ?_ ?_ <;> intro _) | (with_reducible (show W _ _ _ _ _); with_reducible refine sc2 ?_ ?_ <;> intro _) | (with_reducible (show W _ _ (.code (.region 1 _ true) :: _) _ _); with_reducible refine W_draw [(0, []), (1, []), (2, []), (3, []), (4, []), (6, []), (7, []), (8, []), (9, []), (12, []), (13, []), (14, []), (15, []), (16, []), (18, []), (19, []), (20, []), (21, []), (5, [8, 15, 20]), (10, [15, 20]), (11, [15, 20]), (17, [20]), (22, []), (23, []), (24, []), (25, [])] [8, 15, 20] (by kernel_rfl) ?_) | ((with_reducible (show CallK _ _ _ _ _ _ _ _ _ _ _); first | (with_reducible refine cm2 (cmul_spec _ _ _ (by first | exact hget_sa hpl | exact (hget_old hpl).trans hp)) ?_) | (with_reducible refine cm2 (cadd_spec (mulM_in _ _) (mulM_in _ _) _ (by first | exact hget_sa hpl | exact (hget_old hpl).trans hp)) ?_) | (with_reducible refine cm2 (csub_spec (mulM_in _ _) _ _ (by first | exact hget_sa hpl | exact (hget_old hpl).trans hp)) ?_)))
  all_goals exact ⟨rfl, _, rfl⟩

/-- Two places of a matrix get what two numbers are turned to. -/
def pairM (n c s i k i' k' : Int) (D : List Int) : List Int :=
  setM n n n (setM n n n D i k (ofM c s (atM n n n D i k) (atM n n n D i' k')).1) i' k' (ofM c s (atM n n n D i k) (atM n n n D i' k')).2
def rowsM (n c s a : Int) (m : Nat) (D : List Int) : List Int := iter (fun k D => pairM n c s a k (a + 1) k D) m D
def colsM (n c s a : Int) (m : Nat) (D : List Int) : List Int := iter (fun k D => pairM n c s k a k (a + 1) D) m D
theorem pair_ok {n : Int} {D : List Int} (h : MatOk n n D) (c s i k i' k' : Int) : MatOk n n (pairM n c s i k i' k' D) := (h.set _ _ _).set _ _ _
theorem rows_ok {n : Int} {D : List Int} (h : MatOk n n D) (c s a : Int) (m : Nat) : MatOk n n (rowsM n c s a m D) := h.iter (fun k D hD => pair_ok hD _ _ _ _ _ _) m
theorem cols_ok {n : Int} {D : List Int} (h : MatOk n n D) (c s a : Int) (m : Nat) : MatOk n n (colsM n c s a m D) := h.iter (fun k D hD => pair_ok hD _ _ _ _ _ _) m

theorem bsV_mats (e : Nat) (z : List Value) (hz : z.length = 4) (b : Bool) (x y : List MV) (hx : x.length = 4) (hy : y.length = 4) : bsV (.slice 4 e (some z) b) 2 [(0, .agg x), (1, .agg y)] = some (x ++ y, 4) := by
  obtain ⟨x0, x1, x2, x3, rfl⟩ : ∃ a b c d, x = [a, b, c, d] := by
    match x, hx with
    | [a, b, c, d], _ => exact ⟨a, b, c, d, rfl⟩
  obtain ⟨y0, y1, y2, y3, rfl⟩ : ∃ a b c d, y = [a, b, c, d] := by
    match y, hy with
    | [a, b, c, d], _ => exact ⟨a, b, c, d, rfl⟩
  obtain ⟨z0, z1, z2, z3, rfl⟩ : ∃ a b c d, z = [a, b, c, d] := by
    match z, hz with
    | [a, b, c, d], _ => exact ⟨a, b, c, d, rfl⟩
  simp [bsV, fillM, cellsM]
  rfl

theorem turn_spec {n : Int} {p q : Nat} {D E : List Int} (hD : MatOk n n D) (hE : MatOk n n E) (c s a : Int) (ha : -9223372036854775808 ≤ a ∧ a < 9223372036854775808) {H : MH} (hp : hget H p = some ⟨D.map u64, true⟩) (hq : hget H q = some ⟨E.map u64, true⟩) (hpq : p ≠ q) {N : Nat} (hN : (n * n).toNat = N) :
    Spec Tryz.prog 44 [mx n n n p N N, mx n n n q N N, .agg [u64 c, u64 s], i64 a] H fun v H' => v = .tup [] ∧
      H' = if 0 ≤ a ∧ a ≤ n - 2 then (H.set p (some ⟨(colsM n c s a n.toNat (rowsM n c s a n.toNat D)).map u64, true⟩)).set q (some ⟨(colsM n c s a n.toNat E).map u64, true⟩) else H := by
  have hpl := lt_of_hget hp
  have hql := lt_of_hget hq
  have hr := hD.r1
  have hr0 := hD.r0
  have hl := hD.len
  rw [hN] at hl
  have w2 : IntKind.i64.wrap (n - 2) = n - 2 := wrap_i64 (by omega)
  have hb := fun e z hz b x y hx hy => bsV_mats e z hz b x y hx hy
  by_cases hin : 0 ≤ a ∧ a ≤ n - 2
  · have wa : IntKind.i64.wrap (a + 1) = a + 1 := wrap_i64 (by omega)
    have h1 : ¬ a < 0 := by omega
    have h2 : ¬ a > n - 2 := by omega
    rw [if_pos hin]
    refine Spec.junk (by rw [len_set, len_set]) (set_or (set_or (fun q o h => .inl h) (closed_u64 _)) (closed_u64 _)) (by simp [Cl, Cls']) (enterS Tryz.func44 [] ?_)
    have z1 : IntKind.i64.wrap (0 + 1) = 1 := by decide
    have z2 : IntKind.i64.wrap (1 + 1) = 2 := by decide
    have z3 : ((2 : Nat) : Int) = 2 := _root_.id rfl
    have z4 : (0 : Int).toNat = 0 := _root_.id rfl
    have z5 : (1 : Int).toNat = 1 := _root_.id rfl
    have hqp : q ≠ p := Ne.symm hpq
    repeat' first | (with_reducible (show W _ _ _ _ _); with_reducible refine go2 ?_) | (with_reducible (show W _ _ _ _ _); with_reducible refine sg2 ?_ ?_ <;> intro _) | (with_reducible (show W _ _ _ _ _); with_reducible refine sc2 ?_ ?_ <;> intro _) | (with_reducible (show W _ _ (.code (.region 6 _ true) :: _) _ _); with_reducible refine W_draw [(0, []), (1, []), (2, []), (3, []), (5, []), (6, []), (7, []), (8, []), (4, [0, 5]), (9, [0]), (10, []), (11, []), (12, []), (13, []), (14, []), (15, [])] [0, 5] (by kernel_rfl) ?_) | (with_reducible (show W _ _ (.code (.region 16 _ true) :: _) _ _); with_reducible refine W_draw [(0, []), (1, []), (2, []), (3, []), (5, []), (6, []), (7, []), (8, []), (4, [0, 5]), (9, [0]), (10, []), (11, []), (12, []), (13, []), (14, []), (15, [])] [0, 5] (by kernel_rfl) ?_)
    refine W_for (fun j ρ H' => ∃ (k : Nat) (g : Int), k + j = n.toNat ∧ ρ 3 = i64 a ∧ ρ 4 = .ptr H.length 0 ∧ ρ 5 = .ptr (H.length + 1) 0 ∧ ρ 6 = .ptr (H.length + 2) 0 ∧ ρ 8 = .ptr (H.length + 3) 0 ∧ ρ 41 = i64 n ∧ ρ 42 = i64 k ∧
      H' = H.set p (some ⟨(rowsM n c s a k D).map u64, true⟩) ++ [some ⟨[i64 n, i64 n, i64 n, .slice p 0 N N 1], true⟩, some ⟨[i64 n, i64 n, i64 n, .slice q 0 N N 1], true⟩, some ⟨[u64 c, u64 s], true⟩, some ⟨[u8 g], true⟩]) n.toNat ?_ ?_
    · refine ⟨0, 0, by omega, ?_⟩
      simp [put, args0, rowsM, iter, hset_id hp]
    · rintro j ρ H' ⟨k, g, hk, h3, h4, h5, h6, h8, h41, h42, rfl⟩
      have okD := rows_ok hD c s a k
      have okl : (rowsM n c s a k D).length = N := okD.len.trans hN
      repeat' first | (with_reducible (show W _ _ _ _ _); with_reducible refine go2 ?_) | (with_reducible (show W _ _ _ _ _); with_reducible refine sg2 ?_ ?_ <;> intro _) | (with_reducible (show W _ _ _ _ _); with_reducible refine sc2 ?_ ?_ <;> intro _) | (with_reducible (show CallK _ _ _ _ _ _ _ _ _ _ _); with_reducible refine ce2 (at_ok okD _ _ (hget_sa hpl) okl) ?_) | (with_reducible (show W _ _ (.code (.region 6 _ true) :: _) _ _); with_reducible refine W_draw [(0, []), (1, []), (2, []), (3, []), (5, []), (6, []), (7, []), (8, []), (4, [0, 5]), (9, [0]), (10, []), (11, []), (12, []), (13, []), (14, []), (15, [])] [0, 5] (by kernel_rfl) ?_) | (with_reducible (show W _ _ (.code (.region 16 _ true) :: _) _ _); with_reducible refine W_draw [(0, []), (1, []), (2, []), (3, []), (5, []), (6, []), (7, []), (8, []), (4, [0, 5]), (9, [0]), (10, []), (11, []), (12, []), (13, []), (14, []), (15, [])] [0, 5] (by kernel_rfl) ?_) | ((with_reducible (show CallK _ _ _ _ _ _ _ _ _ _ _); first | (with_reducible refine cm2 (of_spec c s _ _ g (hget_newL len_set)) ?_) | (with_reducible refine cm2 (set_ok okD _ _ _ (hget_sa hpl) okl) ?_) | (with_reducible refine cm2 (set_ok (okD.set _ _ _) _ _ _ (hget_sa hpl) ((setM_len _ _ _ _ _ _ _).trans okl)) ?_)))
      · exact ⟨j - 1, by omega, k + 1, _, by omega, by rw [wrap_suc (by assumption) (by omega)], rfl⟩
      · have hkn : k = n.toNat := by omega
        subst hkn
        generalize rowsM n c s a n.toNat D = R at okD okl
        clear h4 h5 h41 h42
        refine W_loop_n 3 ?_
        repeat' first | (with_reducible (show W _ _ _ _ _); with_reducible refine go2 ?_) | (with_reducible (show W _ _ _ _ _); with_reducible refine sg2 ?_ ?_ <;> intro _) | (with_reducible (show W _ _ _ _ _); with_reducible refine sc2 ?_ ?_ <;> intro _) | (with_reducible (show W _ _ (.code (.region 6 _ true) :: _) _ _); with_reducible refine W_draw [(0, []), (1, []), (2, []), (3, []), (5, []), (6, []), (7, []), (8, []), (4, [0, 5]), (9, [0]), (10, []), (11, []), (12, []), (13, []), (14, []), (15, [])] [0, 5] (by kernel_rfl) ?_) | (with_reducible (show W _ _ (.code (.region 16 _ true) :: _) _ _); with_reducible refine W_draw [(0, []), (1, []), (2, []), (3, []), (5, []), (6, []), (7, []), (8, []), (4, [0, 5]), (9, [0]), (10, []), (11, []), (12, []), (13, []), (14, []), (15, [])] [0, 5] (by kernel_rfl) ?_)
        refine W_for (fun j ρ H' => ∃ (k : Nat) (g : Int), k + j = n.toNat ∧ ρ 3 = i64 a ∧ ρ 6 = .ptr (H.length + 2) 0 ∧ ρ 8 = .ptr (H.length + 3) 0 ∧ ρ 13 = .ptr (H.length + 5) 0 ∧ ρ 73 = .slice (H.length + 4) 0 2 2 4 ∧ ρ 74 = i64 2 ∧ ρ 75 = i64 0 ∧ ρ 80 = i64 n ∧ ρ 81 = i64 k ∧
          H' = H.set p (some ⟨(colsM n c s a k R).map u64, true⟩) ++ [some ⟨[i64 n, i64 n, i64 n, .slice p 0 N N 1], true⟩, some ⟨[i64 n, i64 n, i64 n, .slice q 0 N N 1], true⟩, some ⟨[u64 c, u64 s], true⟩, some ⟨[u8 g], true⟩,
            some ⟨[i64 n, i64 n, i64 n, .slice p 0 N N 1, i64 n, i64 n, i64 n, .slice q 0 N N 1], true⟩, some ⟨[i64 n, i64 n, i64 n, .slice p 0 N N 1], true⟩]) n.toNat ?_ ?_
        · refine ⟨0, g, by omega, ?_⟩
          simp [put, colsM, iter, *]
        · clear h3 h6 h8
          rintro j' ρ' H' ⟨k, g, hk', h3, h6, h8, h13, h73, h74, h75, h80, h81, rfl⟩
          have okC := cols_ok okD c s a k
          have okl2 : (colsM n c s a k R).length = N := okC.len.trans hN
          repeat' first | (with_reducible (show W _ _ _ _ _); with_reducible refine go2 ?_) | (with_reducible (show W _ _ _ _ _); with_reducible refine sg2 ?_ ?_ <;> intro _) | (with_reducible (show W _ _ _ _ _); with_reducible refine sc2 ?_ ?_ <;> intro _) | (with_reducible (show CallK _ _ _ _ _ _ _ _ _ _ _); with_reducible refine ce2 (at_ok okC _ _ (hget_sa hpl) okl2) ?_) | (with_reducible (show W _ _ (.code (.region 6 _ true) :: _) _ _); with_reducible refine W_draw [(0, []), (1, []), (2, []), (3, []), (5, []), (6, []), (7, []), (8, []), (4, [0, 5]), (9, [0]), (10, []), (11, []), (12, []), (13, []), (14, []), (15, [])] [0, 5] (by kernel_rfl) ?_) | (with_reducible (show W _ _ (.code (.region 16 _ true) :: _) _ _); with_reducible refine W_draw [(0, []), (1, []), (2, []), (3, []), (5, []), (6, []), (7, []), (8, []), (4, [0, 5]), (9, [0]), (10, []), (11, []), (12, []), (13, []), (14, []), (15, [])] [0, 5] (by kernel_rfl) ?_) | ((with_reducible (show CallK _ _ _ _ _ _ _ _ _ _ _); first | (with_reducible refine cm2 (of_spec c s _ _ g (hget_newL len_set)) ?_) | (with_reducible refine cm2 (set_ok okC _ _ _ (hget_sa hpl) okl2) ?_) | (with_reducible refine cm2 (set_ok (okC.set _ _ _) _ _ _ (hget_sa hpl) ((setM_len _ _ _ _ _ _ _).trans okl2)) ?_)))
          · exact ⟨j' - 1, by omega, k + 1, _, by omega, by rw [wrap_suc (by assumption) (by omega)], rfl⟩
          · have hkn2 : k = n.toNat := by omega
            subst hkn2
            generalize colsM n c s a n.toNat R = S at okC okl2
            clear h13 h75 h80 h81
            have hqs : q < (H.set p (some ⟨S.map u64, true⟩)).length := by rw [len_set]; exact hql
            refine W_for (fun j ρ H' => ∃ (k : Nat) (g : Int), k + j = n.toNat ∧ ρ 3 = i64 a ∧ ρ 6 = .ptr (H.length + 2) 0 ∧ ρ 8 = .ptr (H.length + 3) 0 ∧ ρ 13 = .ptr (H.length + 6) 0 ∧ ρ 73 = .slice (H.length + 4) 0 2 2 4 ∧ ρ 74 = i64 2 ∧ ρ 75 = i64 1 ∧ ρ 80 = i64 n ∧ ρ 81 = i64 k ∧
              H' = (H.set p (some ⟨S.map u64, true⟩)).set q (some ⟨(colsM n c s a k E).map u64, true⟩) ++ [some ⟨[i64 n, i64 n, i64 n, .slice p 0 N N 1], true⟩, some ⟨[i64 n, i64 n, i64 n, .slice q 0 N N 1], true⟩, some ⟨[u64 c, u64 s], true⟩, some ⟨[u8 g], true⟩,
                some ⟨[i64 n, i64 n, i64 n, .slice p 0 N N 1, i64 n, i64 n, i64 n, .slice q 0 N N 1], true⟩, some ⟨[i64 n, i64 n, i64 n, .slice p 0 N N 1], true⟩, some ⟨[i64 n, i64 n, i64 n, .slice q 0 N N 1], true⟩]) n.toNat ?_ ?_
            · refine ⟨0, g, by omega, ?_⟩
              have e : (H.set p (some ⟨S.map u64, true⟩)).set q (some ⟨E.map u64, true⟩) = H.set p (some ⟨S.map u64, true⟩) := hset_id (by rw [hget_set_ne hpq]; exact hq)
              simp [put, colsM, iter, e, *]
            · clear h3 h6 h8 h73 h74
              rintro j'' ρ'' H' ⟨k, g, hk'', h3, h6, h8, h13, h73, h74, h75, h80, h81, rfl⟩
              have okF := cols_ok hE c s a k
              have okl3 : (colsM n c s a k E).length = N := okF.len.trans hN
              repeat' first | (with_reducible (show W _ _ _ _ _); with_reducible refine go2 ?_) | (with_reducible (show W _ _ _ _ _); with_reducible refine sg2 ?_ ?_ <;> intro _) | (with_reducible (show W _ _ _ _ _); with_reducible refine sc2 ?_ ?_ <;> intro _) | (with_reducible (show CallK _ _ _ _ _ _ _ _ _ _ _); with_reducible refine ce2 (at_ok okF _ _ (hget_sa hqs) okl3) ?_) | (with_reducible (show W _ _ (.code (.region 6 _ true) :: _) _ _); with_reducible refine W_draw [(0, []), (1, []), (2, []), (3, []), (5, []), (6, []), (7, []), (8, []), (4, [0, 5]), (9, [0]), (10, []), (11, []), (12, []), (13, []), (14, []), (15, [])] [0, 5] (by kernel_rfl) ?_) | (with_reducible (show W _ _ (.code (.region 16 _ true) :: _) _ _); with_reducible refine W_draw [(0, []), (1, []), (2, []), (3, []), (5, []), (6, []), (7, []), (8, []), (4, [0, 5]), (9, [0]), (10, []), (11, []), (12, []), (13, []), (14, []), (15, [])] [0, 5] (by kernel_rfl) ?_) | ((with_reducible (show CallK _ _ _ _ _ _ _ _ _ _ _); first | (with_reducible refine cm2 (of_spec c s _ _ g (hget_newL (len_set.trans len_set))) ?_) | (with_reducible refine cm2 (set_ok okF _ _ _ (hget_sa hqs) okl3) ?_) | (with_reducible refine cm2 (set_ok (okF.set _ _ _) _ _ _ (hget_sa hqs) ((setM_len _ _ _ _ _ _ _).trans okl3)) ?_)))
              · exact ⟨j'' - 1, by omega, k + 1, _, by omega, by rw [wrap_suc (by assumption) (by omega)], rfl⟩
              · have hkn3 : k = n.toNat := by omega
                subst hkn3
                exact ⟨_, rfl⟩
  · rw [if_neg hin]
    refine Spec.scalar (enterS Tryz.func44 [] ?_)
    have h1 : a < 0 ∨ a > n - 2 := by omega
    repeat' first | (with_reducible (show W _ _ _ _ _); with_reducible refine go2 ?_) | (with_reducible (show W _ _ _ _ _); with_reducible refine sg2 ?_ ?_ <;> intro _) | (with_reducible (show W _ _ _ _ _); with_reducible refine sc2 ?_ ?_ <;> intro _) | (with_reducible (show W _ _ (.code (.region 6 _ true) :: _) _ _); with_reducible refine W_draw [(0, []), (1, []), (2, []), (3, []), (5, []), (6, []), (7, []), (8, []), (4, [0, 5]), (9, [0]), (10, []), (11, []), (12, []), (13, []), (14, []), (15, [])] [0, 5] (by kernel_rfl) ?_) | (with_reducible (show W _ _ (.code (.region 16 _ true) :: _) _ _); with_reducible refine W_draw [(0, []), (1, []), (2, []), (3, []), (5, []), (6, []), (7, []), (8, []), (4, [0, 5]), (9, [0]), (10, []), (11, []), (12, []), (13, []), (14, []), (15, [])] [0, 5] (by kernel_rfl) ?_)
    all_goals first | (exfalso; omega) | trivial
end Go.Proofs.YtdbngjlhcjjhbaaGreatDoor.M
