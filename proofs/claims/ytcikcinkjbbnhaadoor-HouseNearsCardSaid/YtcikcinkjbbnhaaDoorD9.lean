/- Exact numbers: sums. -/
import Derived.Test.YtcikcinkjbbnhaaDoorD8
set_option linter.unusedSimpArgs false
set_option linter.unusedVariables false
set_option pp.deepTerms false
set_option pp.maxSteps 1500
set_option maxRecDepth 10000
set_option maxHeartbeats 4000000
namespace Go.Proofs.YtcikcinkjbbnhaaDoor.M
open Go Go.Proofs

theorem shr64 {x : Int} (hx : 0 ≤ x) : shrV .u64 x 32 = x / 4294967296 := by
  unfold shrV
  rw [show (2 : Int) ^ (min (32 : Int).toNat IntKind.u64.bits) = 4294967296 from by decide, Int.fdiv_eq_ediv_of_nonneg _ (by omega)]
theorem shrI64 (x : Int) : shrV .i64 x 32 = x / 4294967296 := by
  unfold shrV
  rw [show (2 : Int) ^ (min (32 : Int).toNat IntKind.i64.bits) = 4294967296 from by decide, Int.fdiv_eq_ediv_of_nonneg _ (by omega)]
/-- The sum of two digit by digit. -/
theorem add_step {k : Nat} {r : List Int} {c x y A B : Int} (hrl : r.length = k) (h : dv r + c * bp k = A + B) : dv (r ++ [(c + x + y) % 4294967296]) + (c + x + y) / 4294967296 * bp (k + 1) = (A + bp k * x) + (B + bp k * y) := by
  rw [dv_snoc, hrl, bp_succ]
  have h1 := Int.mul_ediv_add_emod (c + x + y) 4294967296
  have h2 : bp k * (4294967296 * ((c + x + y) / 4294967296) + (c + x + y) % 4294967296) = bp k * (c + x + y) := by rw [h1]
  rw [Int.mul_add, Int.mul_add, Int.mul_add, ← Int.mul_assoc] at h2
  have h3 : (c + x + y) / 4294967296 * (4294967296 * bp k) = bp k * 4294967296 * ((c + x + y) / 4294967296) := by rw [Int.mul_comm, Int.mul_comm 4294967296]
  have h4 : c * bp k = bp k * c := Int.mul_comm _ _
  omega
theorem add_num {H : MH} {sa sb la lb ea eb} {qa qb : Rat} {K : Int} (ha : Num H sa la ea qa K) (hb : Num H sb lb eb qb K) (hK : 0 ≤ K ∧ K ≤ 1000000000) :
    Spec Tryd.prog 28 [nv sa la ea, nv sb lb eb] H fun u H' => NumR H H' u (qa + qb) (K + 1) := by
  have oa := ha.one
  have ob := hb.one
  refine enterS Tryd.func28 [.cell 4 34] ?_
  rcases ha with ⟨rfl, rfl, rfl, rfl⟩ | ⟨a, da, a1, a2, a3, rfl, a4, a5⟩
  · repeat' first | (with_reducible (show W _ _ _ _ _); with_reducible refine go2 ?_) | (with_reducible (show W _ _ _ _ _); with_reducible refine sg2 ?_ ?_ <;> intro _) | (with_reducible (show W _ _ _ _ _); with_reducible refine sc2 ?_ ?_ <;> intro _) | (with_reducible (show W _ _ (.code (.region 19 _ true) :: _) _ _); with_reducible refine W_draw [(0, []), (1, []), (2, []), (3, []), (4, []), (5, []), (7, []), (6, [1]), (8, []), (9, [])] [1] (by kernel_rfl) ?_) | (with_reducible (show W _ _ (.code (.region 25 _ true) :: _) _ _); with_reducible refine W_draw [(0, []), (1, []), (2, []), (3, []), (4, []), (5, []), (6, [])] [] (by kernel_rfl) ?_)
    all_goals first
      | (rw [Rat.zero_add]; exact ⟨(Old.refl H).app _, sb, lb, eb, rfl, (hb.mono (by omega)).old ((Old.refl H).app _)⟩)
      | (rename_i hh; exact absurd hh (by decide))
  obtain ⟨pa, oa', ca, oba, rfl, hpa, hca, hcella⟩ := id da
  have hla0 : ((a.length : Int) = 0) = False := eq_false (by have : a.length ≠ 0 := fun h => a2.1 (List.eq_nil_of_length_eq_zero h); omega)
  rcases hb with ⟨rfl, rfl, rfl, rfl⟩ | ⟨b, db, b1, b2, b3, rfl, b4, b5⟩
  · repeat' first | (with_reducible (show W _ _ _ _ _); with_reducible refine go2 ?_) | (with_reducible (show W _ _ _ _ _); with_reducible refine sg2 ?_ ?_ <;> intro _) | (with_reducible (show W _ _ _ _ _); with_reducible refine sc2 ?_ ?_ <;> intro _) | (with_reducible (show W _ _ (.code (.region 19 _ true) :: _) _ _); with_reducible refine W_draw [(0, []), (1, []), (2, []), (3, []), (4, []), (5, []), (7, []), (6, [1]), (8, []), (9, [])] [1] (by kernel_rfl) ?_) | (with_reducible (show W _ _ (.code (.region 25 _ true) :: _) _ _); with_reducible refine W_draw [(0, []), (1, []), (2, []), (3, []), (4, []), (5, []), (6, [])] [] (by kernel_rfl) ?_)
    all_goals first
      | (rw [Rat.add_zero]; exact ⟨(Old.refl H).app _, sa, _, ea, rfl, .inr ⟨a, da.old ((Old.refl H).app _), a1, a2, a3, rfl, by omega, ltle a5 (pw_le (by omega))⟩⟩)
      | (rename_i hh; exact absurd hh (by decide))
  obtain ⟨pb, ob', cb, obb, rfl, hpb, hcb, hcellb⟩ := id db
  have hlb0 : ((b.length : Int) = 0) = False := eq_false (by have : b.length ≠ 0 := fun h => b2.1 (List.eq_nil_of_length_eq_zero h); omega)
  obtain ⟨ba1, ba2⟩ := num_bd a1 a2 a4 a5
  obtain ⟨bb1, bb2⟩ := num_bd b1 b2 b4 b5
  repeat' first | (with_reducible (show W _ _ _ _ _); with_reducible refine go2 ?_) | (with_reducible (show W _ _ _ _ _); with_reducible refine sg2 ?_ ?_ <;> intro _) | (with_reducible (show W _ _ (.code (.region 19 _ true) :: _) _ _); with_reducible refine W_draw [(0, []), (1, []), (2, []), (3, []), (4, []), (5, []), (7, []), (6, [1]), (8, []), (9, [])] [1] (by kernel_rfl) ?_) | (with_reducible (show W _ _ (.code (.region 25 _ true) :: _) _ _); with_reducible refine W_draw [(0, []), (1, []), (2, []), (3, []), (4, []), (5, []), (6, [])] [] (by kernel_rfl) ?_)
  (with_reducible (show CallK _ _ _ _ _ _ _ _ _ _ _)); with_reducible refine cx2 (line_spec (da.old ((Old.refl H).app _)) (db.old ((Old.refl H).app _)) a1 b1 a2 b2 (by omega) (by omega) (by omega) (by omega)) ?_
  obtain ⟨e, he⟩ : ∃ e, min ea eb = e := ⟨_, rfl⟩
  rw [he]
  have heK : -K ≤ e ∧ e < K := by omega
  have hA : (((dv a * 2 ^ (ea - e).toNat : Int)) : Rat) * pw e = (dv a : Rat) * pw ea := by
    rw [Rat.intCast_mul, pow_rat, Rat.mul_assoc, ← pw_add]; congr 2; omega
  have hB : (((dv b * 2 ^ (eb - e).toNat : Int)) : Rat) * pw e = (dv b : Rat) * pw eb := by
    rw [Rat.intCast_mul, pow_rat, Rat.mul_assoc, ← pw_add]; congr 2; omega
  rintro u C ⟨hC, x, y, xs, ys, rfl, hx, hy, dx, dy, tx, ty', vx, vy, lx, ly⟩
  rw [← vx] at hA
  rw [← vy] at hB
  have hlx : xs.length ≤ 500000000 := by omega
  have hly : ys.length ≤ 500000000 := by omega
  clear lx ly vx vy he
  have c0 := hC.getO (hget_newL (L := [some ⟨[bl sa, .slice pa oa' a.length ca 1, i64 ea], true⟩, some ⟨[bl sb, .slice pb ob' b.length cb 1, i64 eb], true⟩, some ⟨[bl false, .lit (.slice none 0 0), i64 0], true⟩]) (i := 0) rfl)
  have c1 := hC.getO (hget_newL (L := [some ⟨[bl sa, .slice pa oa' a.length ca 1, i64 ea], true⟩, some ⟨[bl sb, .slice pb ob' b.length cb 1, i64 eb], true⟩, some ⟨[bl false, .lit (.slice none 0 0), i64 0], true⟩]) (i := 1) rfl)
  have c2 := hC.getO (hget_newL (L := [some ⟨[bl sa, .slice pa oa' a.length ca 1, i64 ea], true⟩, some ⟨[bl sb, .slice pb ob' b.length cb 1, i64 eb], true⟩, some ⟨[bl false, .lit (.slice none 0 0), i64 0], true⟩]) (i := 2) rfl)
  rw [Nat.add_zero] at c0
  have hHC : Old H C := ((Old.refl H).app _).trans hC
  obtain ⟨px, ox, cx, obx, rfl, hpx, hcx, hcellx⟩ := id hx
  obtain ⟨py, oy, cy, oby, rfl, hpy, hcy, hcelly⟩ := id hy
  repeat' first | (with_reducible (show W _ _ _ _ _); with_reducible refine go2 ?_) | (with_reducible (show W _ _ _ _ _); with_reducible refine sg2 ?_ ?_ <;> intro _) | (with_reducible (show W _ _ (.code (.region 19 _ true) :: _) _ _); with_reducible refine W_draw [(0, []), (1, []), (2, []), (3, []), (4, []), (5, []), (7, []), (6, [1]), (8, []), (9, [])] [1] (by kernel_rfl) ?_) | (with_reducible (show W _ _ (.code (.region 25 _ true) :: _) _ _); with_reducible refine W_draw [(0, []), (1, []), (2, []), (3, []), (4, []), (5, []), (6, [])] [] (by kernel_rfl) ?_)
  have f3 : ∀ m : Nat, (0 ≤ (m : Int)) = True := fun m => eq_true (by omega)
  have f5 : ∀ m : Nat, (m : Int).toNat = m := fun m => Int.toNat_natCast m
  have f6 : ∀ m : Nat, m * 1 = m := Nat.mul_one
  have hbs : ∀ x : Int, bsV (.slice 1 4 (some [.int .u32 0]) true) 1 [(0, w32 x)] = some ([w32 x], 1) := fun x => _root_.id rfl
  have hty : (ty Tryd.prog 32).k = .slice 1 4 (some [.int .u32 0]) true := by rw [ty_32]
  refine sc2 ?_ ?_ <;> intro hs
  · have hs : sa = sb := by simpa using hs
    subst hs
    repeat' first | (with_reducible (show W _ _ _ _ _); with_reducible refine go2 ?_) | (with_reducible (show W _ _ _ _ _); with_reducible refine sg2 ?_ ?_ <;> intro _) | (with_reducible (show W _ _ (.code (.region 19 _ true) :: _) _ _); with_reducible refine W_draw [(0, []), (1, []), (2, []), (3, []), (4, []), (5, []), (7, []), (6, [1]), (8, []), (9, [])] [1] (by kernel_rfl) ?_) | (with_reducible (show W _ _ (.code (.region 25 _ true) :: _) _ _); with_reducible refine W_draw [(0, []), (1, []), (2, []), (3, []), (4, []), (5, []), (6, [])] [] (by kernel_rfl) ?_)
    refine W_cut (fun ρ C' => ∃ (p5 o5 c5 p6 o6 c6 : Nat) (X Y : List Int), (Dg C (.slice p5 o5 X.length c5 1) X ∧ Dg C (.slice p6 o6 Y.length c6 1) Y ∧ D32 X ∧ D32 Y ∧ Y.length ≤ X.length ∧ X.length ≤ 500000000 ∧ dv X + dv Y = dv xs + dv ys) ∧ ρ 5 = .slice p5 o5 X.length c5 1 ∧ ρ 6 = .slice p6 o6 Y.length c6 1 ∧ ρ 2 = .ptr H.length 0 ∧ ρ 4 = .ptr (H.length + 2) 0 ∧ ρ 7 = i64 e ∧ C' = C) ?_ ?_
    · repeat' first | (with_reducible (show W _ _ _ _ _); with_reducible refine go2 ?_) | (with_reducible (show W _ _ _ _ _); with_reducible refine sg2 ?_ ?_ <;> intro _) | (with_reducible (show W _ _ _ _ _); with_reducible refine sc2 ?_ ?_ <;> intro _) | (with_reducible (show W _ _ (.code (.region 19 _ true) :: _) _ _); with_reducible refine W_draw [(0, []), (1, []), (2, []), (3, []), (4, []), (5, []), (7, []), (6, [1]), (8, []), (9, [])] [1] (by kernel_rfl) ?_) | (with_reducible (show W _ _ (.code (.region 25 _ true) :: _) _ _); with_reducible refine W_draw [(0, []), (1, []), (2, []), (3, []), (4, []), (5, []), (6, [])] [] (by kernel_rfl) ?_)
      · rename_i hll
        exact ⟨_, _, _, _, _, _, ys, xs, ⟨hy, hx, dy, dx, by omega, hly, by omega⟩, rfl, rfl⟩
      · rename_i hll
        exact ⟨_, _, _, _, _, _, xs, ys, ⟨hx, hy, dx, dy, by omega, hlx, rfl⟩, rfl, rfl⟩
    rintro ρ C' ⟨p5, o5, c5, p6, o6, c6, X, Y, ⟨dX, dY, d32X, d32Y, hlYX, hlX, hsum⟩, h5, h6, h2, h4, h7, rfl⟩
    obtain ⟨_, _, _, ob5, h5e, hp5, hc5, hcell5⟩ := id dX
    cases h5e
    obtain ⟨_, _, _, ob6, h6e, hp6, hc6, hcell6⟩ := id dY
    cases h6e
    have hX : Hid2 ((dv X + dv Y : Int) * pw e = (dv a : Rat) * pw ea + (dv b : Rat) * pw eb) := by
      show _ = _
      rw [← hA, ← hB, ← Rat.add_mul, ← Rat.intCast_add, hsum]
    clear hx hy dx dy tx ty' hA hB hlx hly hpx hcx hcellx hpy hcy hcelly hsum
    have hms := msV32 (n := 0) (m := X.length + 1) (by omega) (by omega)
    have z0 : ((0 : Nat) : Int) = 0 := _root_.id rfl
    rw [z0] at hms
    have w1 : IntKind.i64.wrap ((X.length : Int) + 1) = ((X.length + 1 : Nat) : Int) := by rw [wrap_i64 (by omega)]; omega
    repeat' first | (with_reducible (show W _ _ _ _ _); with_reducible refine go2 ?_) | (with_reducible (show W _ _ _ _ _); with_reducible refine sg2 ?_ ?_ <;> intro _) | (with_reducible (show W _ _ (.code (.region 19 _ true) :: _) _ _); with_reducible refine W_draw [(0, []), (1, []), (2, []), (3, []), (4, []), (5, []), (7, []), (6, [1]), (8, []), (9, [])] [1] (by kernel_rfl) ?_) | (with_reducible (show W _ _ (.code (.region 25 _ true) :: _) _ _); with_reducible refine W_draw [(0, []), (1, []), (2, []), (3, []), (4, []), (5, []), (6, [])] [] (by kernel_rfl) ?_)
    refine W_for (fun j ρ C => ∃ (k : Nat) (c' : Int) (r : List Int), k + j = X.length ∧ Gw C' C (ρ 8) r ∧ (r.length = k ∧ D32 r ∧ Hid2 (dv r + c' * bp k = dv (X.take k) + dv (Y.take k)) ∧ 0 ≤ c' ∧ c' ≤ 1) ∧ ρ 5 = .slice p5 o5 X.length c5 1 ∧ ρ 6 = .slice p6 o6 Y.length c6 1 ∧ ρ 2 = .ptr H.length 0 ∧ ρ 4 = .ptr (H.length + 2) 0 ∧ ρ 7 = i64 e ∧ ρ 9 = u64 c' ∧ ρ 49 = i64 (X.length : Int) ∧ ρ 50 = i64 (k : Int) ∧ Old C' C) X.length ?_ ?_
    · refine ⟨0, 0, [], by omega, ?_, ⟨rfl, D32.nil, by show _ = _; simp [dv], by decide, by decide⟩, h5, h6, h2, h4, h7, rfl, rfl, rfl, (Old.refl _).app _⟩
      exact ⟨C'.length, X.length + 1, _, by simp [put], by simp, hget_new', by simp, Nat.le_refl _⟩
    clear h5 h6 h2 h4 h7 hms w1 z0
    rintro j ρ C ⟨k, c', r, hk, hG, ⟨hrl, hrd, hrv, hc0, hc1⟩, h5, h6, h2, h4, h7, h9, h49, h50, hC2⟩
    obtain ⟨u, hu⟩ : ∃ u, ρ 8 = u := ⟨_, rfl⟩
    rw [hu] at hG
    have hp5C := hC2.getO hp5
    have hp6C := hC2.getO hp6
    have hp5L : ∀ L : MH, hget (C ++ L) p5 = some ob5 := fun L => hget_appL hp5C
    have hp6L : ∀ L : MH, hget (C ++ L) p6 = some ob6 := fun L => hget_appL hp6C
    have hrl2 : r.length ≤ 60000000000 := by omega
    by_cases hlt : (k : Int) < X.length
    · have f7 : ob5.cells[o5 + k]? = some (w32 (X.getD k 0)) := hcell5 k (by omega)
      have e1 : IntKind.i64.wrap ((k : Int) + 1) = ((k + 1 : Nat) : Int) := by rw [wrap_i64 (by omega)]; omega
      have hdx := d32X.get k
      have w1 : IntKind.u64.wrap (X.getD k 0) = X.getD k 0 := by rw [wrap_u64]; omega
      have w2 : IntKind.u64.wrap (c' + X.getD k 0) = c' + X.getD k 0 := by rw [wrap_u64]; omega
      by_cases hlt2 : (k : Int) < Y.length
      · have f8 : ob6.cells[o6 + k]? = some (w32 (Y.getD k 0)) := hcell6 k (by omega)
        have hdy := d32Y.get k
        have w3 : IntKind.u64.wrap (Y.getD k 0) = Y.getD k 0 := by rw [wrap_u64]; omega
        have w4 : IntKind.u64.wrap (c' + X.getD k 0 + Y.getD k 0) = c' + X.getD k 0 + Y.getD k 0 := by rw [wrap_u64]; omega
        have w5 := wrap_u32 (c' + X.getD k 0 + Y.getD k 0)
        have w6 := shr64 (x := c' + X.getD k 0 + Y.getD k 0) (by omega)
        have hst := add_step (x := X.getD k 0) (y := Y.getD k 0) hrl (show dv r + c' * bp k = dv (X.take k) + dv (Y.take k) from hrv)
        rw [← dv_take_succ (by omega), ← dv_take_succ (by omega)] at hst
        replace hst : Hid2 _ := hst
        clear hrv
        repeat' first | (with_reducible (show W _ _ _ _ _); with_reducible refine go2 ?_) | (with_reducible (show W _ _ _ _ _); with_reducible refine sg2 ?_ ?_ <;> intro _) | (with_reducible (show W _ _ _ _ _); with_reducible refine sc2 ?_ ?_ <;> intro _) | (with_reducible (show W _ _ (.code (.region 19 _ true) :: _) _ _); with_reducible refine W_draw [(0, []), (1, []), (2, []), (3, []), (4, []), (5, []), (7, []), (6, [1]), (8, []), (9, [])] [1] (by kernel_rfl) ?_) | (with_reducible (show W _ _ (.code (.region 25 _ true) :: _) _ _); with_reducible refine W_draw [(0, []), (1, []), (2, []), (3, []), (4, []), (5, []), (6, [])] [] (by kernel_rfl) ?_) | ((with_reducible (show AppK _ _ _ _ _ _ _ _ _ _); with_reducible refine app_gw hC2 hG hrl2 hty ⟨by decide, rfl, by decide⟩ rfl rfl rfl ?_; rintro v' C3 hC3 hG3; refine ⟨held_none _ _ _, ?_⟩))
        exact ⟨j - 1, by omega, k + 1, _, _, by omega, hG3, ⟨by simp [hrl], D32.app.2 ⟨hrd, D32.cons.2 ⟨⟨Int.emod_nonneg _ (by decide), Int.emod_lt_of_pos _ (by decide)⟩, D32.nil⟩⟩, hst, by omega, by omega⟩, rfl, rfl⟩
      · have w5 := wrap_u32 (c' + X.getD k 0)
        have w6 := shr64 (x := c' + X.getD k 0) (by omega)
        have hst := add_step (x := X.getD k 0) (y := 0) hrl (show dv r + c' * bp k = dv (X.take k) + dv (Y.take k) from hrv)
        rw [← dv_take_succ (by omega), Int.mul_zero, Int.add_zero, Int.add_zero, ← dv_take_over (k := k) (by omega)] at hst
        replace hst : Hid2 _ := hst
        clear hrv
        repeat' first | (with_reducible (show W _ _ _ _ _); with_reducible refine go2 ?_) | (with_reducible (show W _ _ _ _ _); with_reducible refine sg2 ?_ ?_ <;> intro _) | (with_reducible (show W _ _ _ _ _); with_reducible refine sc2 ?_ ?_ <;> intro _) | (with_reducible (show W _ _ (.code (.region 19 _ true) :: _) _ _); with_reducible refine W_draw [(0, []), (1, []), (2, []), (3, []), (4, []), (5, []), (7, []), (6, [1]), (8, []), (9, [])] [1] (by kernel_rfl) ?_) | (with_reducible (show W _ _ (.code (.region 25 _ true) :: _) _ _); with_reducible refine W_draw [(0, []), (1, []), (2, []), (3, []), (4, []), (5, []), (6, [])] [] (by kernel_rfl) ?_) | ((with_reducible (show AppK _ _ _ _ _ _ _ _ _ _); with_reducible refine app_gw hC2 hG hrl2 hty ⟨by decide, rfl, by decide⟩ rfl rfl rfl ?_; rintro v' C3 hC3 hG3; refine ⟨held_none _ _ _, ?_⟩))
        exact ⟨j - 1, by omega, k + 1, _, _, by omega, hG3, ⟨by simp [hrl], D32.app.2 ⟨hrd, D32.cons.2 ⟨⟨Int.emod_nonneg _ (by decide), Int.emod_lt_of_pos _ (by decide)⟩, D32.nil⟩⟩, hst, by omega, by omega⟩, rfl, rfl⟩
    · have c0' := hC2.getO c0
      have c0L : ∀ L : MH, hget (C ++ L) H.length = _ := fun L => hget_appL c0'
      have w5 : IntKind.u32.wrap c' = c' := by rw [wrap_u32]; omega
      have hfin : dv (r ++ [c']) = dv X + dv Y := by
        have hrv : _ = _ := hrv
        rw [dv_snoc, hrl, Int.mul_comm, hrv, dv_take_all (by omega), dv_take_all (by omega)]
      have hval : (dv (r ++ [c']) : Rat) * pw e = (dv a : Rat) * pw ea + (dv b : Rat) * pw eb := by rw [hfin]; exact hX
      have hbound : (dv a : Rat) * pw ea + (dv b : Rat) * pw eb < pw (K + 1) := by
        have h1 := pw_succ K
        have h2 := b5
        have h3 := a5
        generalize (dv a : Rat) * pw ea = A at h3 ⊢
        generalize (dv b : Rat) * pw eb = B at h2 ⊢
        rw [h1]; grind
      have hq : sgn sa * ((dv a : Rat) * pw ea) + sgn sa * ((dv b : Rat) * pw eb) = sgn sa * ((dv a : Rat) * pw ea + (dv b : Rat) * pw eb) := by grind
      rw [hq]
      clear hq hX hrv hfin
      repeat' first | (with_reducible (show W _ _ _ _ _); with_reducible refine go2 ?_) | (with_reducible (show W _ _ _ _ _); with_reducible refine sg2 ?_ ?_ <;> intro _) | (with_reducible (show W _ _ _ _ _); with_reducible refine sc2 ?_ ?_ <;> intro _) | (with_reducible (show W _ _ (.code (.region 19 _ true) :: _) _ _); with_reducible refine W_draw [(0, []), (1, []), (2, []), (3, []), (4, []), (5, []), (7, []), (6, [1]), (8, []), (9, [])] [1] (by kernel_rfl) ?_) | (with_reducible (show W _ _ (.code (.region 25 _ true) :: _) _ _); with_reducible refine W_draw [(0, []), (1, []), (2, []), (3, []), (4, []), (5, []), (6, [])] [] (by kernel_rfl) ?_)
      (with_reducible (show AppK _ _ _ _ _ _ _ _ _ _)); with_reducible refine app_gw hC2 hG hrl2 hty ⟨by decide, rfl, by decide⟩ rfl rfl rfl ?_
      rintro v' C3 hC3 hG3
      have c03 := hC3.getO c0
      have c23 := hC3.getO c2
      refine ⟨by simp [held_cons, held_nil', sem_load, loadV_ptr, cellsAt_eq, ty_4, c03], ?_⟩
      have hd3 : D32 (r ++ [c']) := D32.app.2 ⟨hrd, D32.cons.2 ⟨⟨hc0, by omega⟩, D32.nil⟩⟩
      have hl3 : (r ++ [c']).length ≤ 1000000000 := by simp; omega
      repeat' first | (with_reducible (show W _ _ _ _ _); with_reducible refine go2 ?_) | (with_reducible (show W _ _ _ _ _); with_reducible refine sg2 ?_ ?_ <;> intro _) | (with_reducible (show W _ _ (.code (.region 19 _ true) :: _) _ _); with_reducible refine W_draw [(0, []), (1, []), (2, []), (3, []), (4, []), (5, []), (7, []), (6, [1]), (8, []), (9, [])] [1] (by kernel_rfl) ?_) | (with_reducible (show W _ _ (.code (.region 25 _ true) :: _) _ _); with_reducible refine W_draw [(0, []), (1, []), (2, []), (3, []), (4, []), (5, []), (6, [])] [] (by kernel_rfl) ?_)
      (with_reducible (show CallK _ _ _ _ _ _ _ _ _ _ _)); with_reducible refine cx2 (trim_spec hG3.dg hd3 hl3 sa (by omega)) ?_
      intro w C4 hw
      obtain ⟨hO4, s4, sl4, e4, rfl, hN4⟩ := num_trim (K := K + 1) hval (by omega) hbound hw
      have ho4 := hN4.one
      have c24 := hO4.getO c23
      have hl4 := lt_of_hget c24
      clear hval hbound hw
      repeat' first | (with_reducible (show W _ _ _ _ _); with_reducible refine go2 ?_) | (with_reducible (show W _ _ _ _ _); with_reducible refine sg2 ?_ ?_ <;> intro _) | (with_reducible (show W _ _ _ _ _); with_reducible refine sc2 ?_ ?_ <;> intro _) | (with_reducible (show W _ _ (.code (.region 19 _ true) :: _) _ _); with_reducible refine W_draw [(0, []), (1, []), (2, []), (3, []), (4, []), (5, []), (7, []), (6, [1]), (8, []), (9, [])] [1] (by kernel_rfl) ?_) | (with_reducible (show W _ _ (.code (.region 25 _ true) :: _) _ _); with_reducible refine W_draw [(0, []), (1, []), (2, []), (3, []), (4, []), (5, []), (6, [])] [] (by kernel_rfl) ?_)
      exact ⟨(hHC.trans (hC3.trans hO4)).setq _ (by omega), s4, sl4, e4, rfl, hN4.setz c24 _⟩
  · have hs : sb = !sa := by cases sa <;> cases sb <;> simp_all
    subst hs
    have hcm := cmp_dspec hx hy dx dy tx ty' (by omega)
    repeat' first | (with_reducible (show W _ _ _ _ _); with_reducible refine go2 ?_) | (with_reducible (show W _ _ _ _ _); with_reducible refine sg2 ?_ ?_ <;> intro _) | (with_reducible (show W _ _ (.code (.region 19 _ true) :: _) _ _); with_reducible refine W_draw [(0, []), (1, []), (2, []), (3, []), (4, []), (5, []), (7, []), (6, [1]), (8, []), (9, [])] [1] (by kernel_rfl) ?_) | (with_reducible (show W _ _ (.code (.region 25 _ true) :: _) _ _); with_reducible refine W_draw [(0, []), (1, []), (2, []), (3, []), (4, []), (5, []), (6, [])] [] (by kernel_rfl) ?_)
    (with_reducible (show CallK _ _ _ _ _ _ _ _ _ _ _)); with_reducible refine ce2 hcm ?_
    clear hcm
    refine W_cut (fun ρ C' => ∃ (p5 o5 c5 p6 o6 c6 : Nat) (X Y : List Int) (sg : Bool), (Dg C (.slice p5 o5 X.length c5 1) X ∧ Dg C (.slice p6 o6 Y.length c6 1) Y ∧ D32 X ∧ D32 Y ∧ dv Y < dv X ∧ Y.length ≤ X.length ∧ X.length ≤ 500000000 ∧ Hid2 (sgn sa * ((dv a : Rat) * pw ea) + sgn (!sa) * ((dv b : Rat) * pw eb) = sgn sg * (((dv X - dv Y : Int) : Rat) * pw e)) ∧ Hid2 (((dv X - dv Y : Int) : Rat) * pw e < pw (K + 1))) ∧ ρ 5 = .slice p5 o5 X.length c5 1 ∧ ρ 6 = .slice p6 o6 Y.length c6 1 ∧ ρ 4 = .ptr (H.length + 2) 0 ∧ ρ 7 = i64 e ∧ ρ 11 = bl sg ∧ C' = C) ?_ ?_
    · have hKK : pw K ≤ pw (K + 1) := pw_le (by omega)
      have hdif : ∀ {A B : Rat} {u v : Int}, (u : Rat) * pw e = A → (v : Rat) * pw e = B → ((u - v : Int) : Rat) * pw e = A - B := fun {A B u v} h1 h2 => by rw [Rat.intCast_sub]; grind
      have hpB : 0 < (dv b : Rat) * pw eb := Rat.mul_pos (by have := dv_rat b1 b2; grind) (pw_pos _)
      have hpA : 0 < (dv a : Rat) * pw ea := Rat.mul_pos (by have := dv_rat a1 a2; grind) (pw_pos _)
      rcases Int.lt_trichotomy (dv xs) (dv ys) with hlt | heq | hgt
      · have hc : cmpD (dv xs) (dv ys) = -1 := by rw [cmpD, if_pos hlt]
        repeat' first | (with_reducible (show W _ _ _ _ _); with_reducible refine go2 ?_) | (with_reducible (show W _ _ _ _ _); with_reducible refine sg2 ?_ ?_ <;> intro _) | (with_reducible (show W _ _ _ _ _); with_reducible refine sc2 ?_ ?_ <;> intro _) | (with_reducible (show W _ _ (.code (.region 19 _ true) :: _) _ _); with_reducible refine W_draw [(0, []), (1, []), (2, []), (3, []), (4, []), (5, []), (7, []), (6, [1]), (8, []), (9, [])] [1] (by kernel_rfl) ?_) | (with_reducible (show W _ _ (.code (.region 25 _ true) :: _) _ _); with_reducible refine W_draw [(0, []), (1, []), (2, []), (3, []), (4, []), (5, []), (6, [])] [] (by kernel_rfl) ?_)
        refine ⟨_, _, _, _, _, _, ys, xs, !sa, ⟨hy, hx, dy, dx, hlt, Nat.le_of_not_lt (fun h => by have := dv_len_lt dy dx tx h; omega), hly, ?_, ?_⟩, rfl, rfl, rfl⟩
        · show _ = _
          rw [hB, hA, sgn_not]; grind
        · show _ < _
          rw [hB, hA]; grind
      · have hc : cmpD (dv xs) (dv ys) = 0 := by rw [cmpD, if_neg (by omega), if_neg (by omega)]
        have hAB : (dv a : Rat) * pw ea = (dv b : Rat) * pw eb := by rw [← hA, ← hB, heq]
        have hq : sgn sa * ((dv a : Rat) * pw ea) + sgn (!sa) * ((dv b : Rat) * pw eb) = 0 := by rw [hAB, sgn_not]; grind
        rw [hq]
        clear heq hAB hq hA hB
        have hl2 := lt_of_hget c2
        repeat' first | (with_reducible (show W _ _ _ _ _); with_reducible refine go2 ?_) | (with_reducible (show W _ _ _ _ _); with_reducible refine sg2 ?_ ?_ <;> intro _) | (with_reducible (show W _ _ _ _ _); with_reducible refine sc2 ?_ ?_ <;> intro _) | (with_reducible (show W _ _ (.code (.region 19 _ true) :: _) _ _); with_reducible refine W_draw [(0, []), (1, []), (2, []), (3, []), (4, []), (5, []), (7, []), (6, [1]), (8, []), (9, [])] [1] (by kernel_rfl) ?_) | (with_reducible (show W _ _ (.code (.region 25 _ true) :: _) _ _); with_reducible refine W_draw [(0, []), (1, []), (2, []), (3, []), (4, []), (5, []), (6, [])] [] (by kernel_rfl) ?_)
        exact ⟨hHC.setq _ (by omega), false, _, 0, rfl, Num.zero _ _⟩
      · have hc : cmpD (dv xs) (dv ys) = 1 := by rw [cmpD, if_neg (by omega), if_pos hgt]
        repeat' first | (with_reducible (show W _ _ _ _ _); with_reducible refine go2 ?_) | (with_reducible (show W _ _ _ _ _); with_reducible refine sg2 ?_ ?_ <;> intro _) | (with_reducible (show W _ _ _ _ _); with_reducible refine sc2 ?_ ?_ <;> intro _) | (with_reducible (show W _ _ (.code (.region 19 _ true) :: _) _ _); with_reducible refine W_draw [(0, []), (1, []), (2, []), (3, []), (4, []), (5, []), (7, []), (6, [1]), (8, []), (9, [])] [1] (by kernel_rfl) ?_) | (with_reducible (show W _ _ (.code (.region 25 _ true) :: _) _ _); with_reducible refine W_draw [(0, []), (1, []), (2, []), (3, []), (4, []), (5, []), (6, [])] [] (by kernel_rfl) ?_)
        refine ⟨_, _, _, _, _, _, xs, ys, sa, ⟨hx, hy, dx, dy, hgt, Nat.le_of_not_lt (fun h => by have := dv_len_lt dx dy ty' h; omega), hlx, ?_, ?_⟩, rfl, rfl, rfl⟩
        · show _ = _
          rw [hA, hB, sgn_not]; grind
        · show _ < _
          rw [hA, hB]; grind
    rintro ρ C' ⟨p5, o5, c5, p6, o6, c6, X, Y, sg, ⟨dX, dY, d32X, d32Y, hlt0, hYX, hlX, hq, hbound⟩, h5, h6, h4, h7, h11, rfl⟩
    rw [show sgn sa * ((dv a : Rat) * pw ea) + sgn (!sa) * ((dv b : Rat) * pw eb) = _ from hq]
    obtain ⟨_, _, _, ob5, h5e, hp5, hc5, hcell5⟩ := id dX
    cases h5e
    obtain ⟨_, _, _, ob6, h6e, hp6, hc6, hcell6⟩ := id dY
    cases h6e
    clear hx hy dx dy tx ty' hA hB hlx hly hpx hcx hcellx hpy hcy hcelly hq
    have hms := msV32 (n := 0) (m := X.length) (by omega) (by omega)
    have z0 : ((0 : Nat) : Int) = 0 := _root_.id rfl
    rw [z0] at hms
    repeat' first | (with_reducible (show W _ _ _ _ _); with_reducible refine go2 ?_) | (with_reducible (show W _ _ _ _ _); with_reducible refine sg2 ?_ ?_ <;> intro _) | (with_reducible (show W _ _ (.code (.region 19 _ true) :: _) _ _); with_reducible refine W_draw [(0, []), (1, []), (2, []), (3, []), (4, []), (5, []), (7, []), (6, [1]), (8, []), (9, [])] [1] (by kernel_rfl) ?_) | (with_reducible (show W _ _ (.code (.region 25 _ true) :: _) _ _); with_reducible refine W_draw [(0, []), (1, []), (2, []), (3, []), (4, []), (5, []), (6, [])] [] (by kernel_rfl) ?_)
    refine W_for (fun j ρ C => ∃ (k : Nat) (c' : Int) (r : List Int), k + j = X.length ∧ Gw C' C (ρ 12) r ∧ (r.length = k ∧ D32 r ∧ Hid2 (dv r + c' * bp k = dv (X.take k) + -dv (Y.take k)) ∧ -1 ≤ c' ∧ c' ≤ 0) ∧ ρ 5 = .slice p5 o5 X.length c5 1 ∧ ρ 6 = .slice p6 o6 Y.length c6 1 ∧ ρ 4 = .ptr (H.length + 2) 0 ∧ ρ 7 = i64 e ∧ ρ 11 = bl sg ∧ ρ 13 = i64 c' ∧ ρ 106 = i64 (X.length : Int) ∧ ρ 107 = i64 (k : Int) ∧ Old C' C) X.length ?_ ?_
    · refine ⟨0, 0, [], by omega, ?_, ⟨rfl, D32.nil, by show _ = _; simp [dv], by decide, by decide⟩, h5, h6, h4, h7, h11, rfl, rfl, rfl, (Old.refl _).app _⟩
      exact ⟨C'.length, X.length, _, by simp [put], by simp, hget_new', by simp, Nat.le_refl _⟩
    clear h5 h6 h4 h7 h11 hms z0
    rintro j ρ C ⟨k, c', r, hk, hG, ⟨hrl, hrd, hrv, hc0, hc1⟩, h5, h6, h4, h7, h11, h13, h106, h107, hC2⟩
    obtain ⟨u, hu⟩ : ∃ u, ρ 12 = u := ⟨_, rfl⟩
    rw [hu] at hG
    have hp5C := hC2.getO hp5
    have hp6C := hC2.getO hp6
    have hp5L : ∀ L : MH, hget (C ++ L) p5 = some ob5 := fun L => hget_appL hp5C
    have hp6L : ∀ L : MH, hget (C ++ L) p6 = some ob6 := fun L => hget_appL hp6C
    have hrl2 : r.length ≤ 60000000000 := by omega
    by_cases hlt : (k : Int) < X.length
    · have f7 : ob5.cells[o5 + k]? = some (w32 (X.getD k 0)) := hcell5 k (by omega)
      have e1 : IntKind.i64.wrap ((k : Int) + 1) = ((k + 1 : Nat) : Int) := by rw [wrap_i64 (by omega)]; omega
      have hdx := d32X.get k
      have w1 : IntKind.i64.wrap (X.getD k 0) = X.getD k 0 := wrap_i64 (by omega)
      have w2 : IntKind.i64.wrap (c' + X.getD k 0) = c' + X.getD k 0 := wrap_i64 (by omega)
      by_cases hlt2 : (k : Int) < Y.length
      · have f8 : ob6.cells[o6 + k]? = some (w32 (Y.getD k 0)) := hcell6 k (by omega)
        have hdy := d32Y.get k
        have w3 : IntKind.i64.wrap (Y.getD k 0) = Y.getD k 0 := wrap_i64 (by omega)
        have w4 : IntKind.i64.wrap (c' + X.getD k 0 - Y.getD k 0) = c' + X.getD k 0 - Y.getD k 0 := wrap_i64 (by omega)
        have w5 := wrap_u32 (c' + X.getD k 0 - Y.getD k 0)
        have w6 := shrI64 (c' + X.getD k 0 - Y.getD k 0)
        have hst := add_step (x := X.getD k 0) (y := -Y.getD k 0) hrl (show dv r + c' * bp k = dv (X.take k) + -dv (Y.take k) from hrv)
        rw [← dv_take_succ (by omega), Int.mul_neg, ← Int.neg_add, ← dv_take_succ (by omega), ← Int.sub_eq_add_neg] at hst
        replace hst : Hid2 _ := hst
        clear hrv
        repeat' first | (with_reducible (show W _ _ _ _ _); with_reducible refine go2 ?_) | (with_reducible (show W _ _ _ _ _); with_reducible refine sg2 ?_ ?_ <;> intro _) | (with_reducible (show W _ _ _ _ _); with_reducible refine sc2 ?_ ?_ <;> intro _) | (with_reducible (show W _ _ (.code (.region 19 _ true) :: _) _ _); with_reducible refine W_draw [(0, []), (1, []), (2, []), (3, []), (4, []), (5, []), (7, []), (6, [1]), (8, []), (9, [])] [1] (by kernel_rfl) ?_) | (with_reducible (show W _ _ (.code (.region 25 _ true) :: _) _ _); with_reducible refine W_draw [(0, []), (1, []), (2, []), (3, []), (4, []), (5, []), (6, [])] [] (by kernel_rfl) ?_) | ((with_reducible (show AppK _ _ _ _ _ _ _ _ _ _); with_reducible refine app_gw hC2 hG hrl2 hty ⟨by decide, rfl, by decide⟩ rfl rfl rfl ?_; rintro v' C3 hC3 hG3; refine ⟨held_none _ _ _, ?_⟩))
        exact ⟨j - 1, by omega, k + 1, _, _, by omega, hG3, ⟨by simp [hrl], D32.app.2 ⟨hrd, D32.cons.2 ⟨⟨Int.emod_nonneg _ (by decide), Int.emod_lt_of_pos _ (by decide)⟩, D32.nil⟩⟩, hst, by omega, by omega⟩, rfl, rfl⟩
      · have w5 := wrap_u32 (c' + X.getD k 0)
        have w6 := shrI64 (c' + X.getD k 0)
        have hst := add_step (x := X.getD k 0) (y := 0) hrl (show dv r + c' * bp k = dv (X.take k) + -dv (Y.take k) from hrv)
        rw [← dv_take_succ (by omega), Int.mul_zero, Int.add_zero, Int.add_zero, ← dv_take_over (k := k) (by omega)] at hst
        replace hst : Hid2 _ := hst
        clear hrv
        repeat' first | (with_reducible (show W _ _ _ _ _); with_reducible refine go2 ?_) | (with_reducible (show W _ _ _ _ _); with_reducible refine sg2 ?_ ?_ <;> intro _) | (with_reducible (show W _ _ _ _ _); with_reducible refine sc2 ?_ ?_ <;> intro _) | (with_reducible (show W _ _ (.code (.region 19 _ true) :: _) _ _); with_reducible refine W_draw [(0, []), (1, []), (2, []), (3, []), (4, []), (5, []), (7, []), (6, [1]), (8, []), (9, [])] [1] (by kernel_rfl) ?_) | (with_reducible (show W _ _ (.code (.region 25 _ true) :: _) _ _); with_reducible refine W_draw [(0, []), (1, []), (2, []), (3, []), (4, []), (5, []), (6, [])] [] (by kernel_rfl) ?_) | ((with_reducible (show AppK _ _ _ _ _ _ _ _ _ _); with_reducible refine app_gw hC2 hG hrl2 hty ⟨by decide, rfl, by decide⟩ rfl rfl rfl ?_; rintro v' C3 hC3 hG3; refine ⟨held_none _ _ _, ?_⟩))
        exact ⟨j - 1, by omega, k + 1, _, _, by omega, hG3, ⟨by simp [hrl], D32.app.2 ⟨hrd, D32.cons.2 ⟨⟨Int.emod_nonneg _ (by decide), Int.emod_lt_of_pos _ (by decide)⟩, D32.nil⟩⟩, hst, by omega, by omega⟩, rfl, rfl⟩
    · have hfin : dv r = dv X - dv Y := by
        have hrv : _ = _ := hrv
        have hYl : Y.length ≤ k := by omega
        rw [dv_take_all (by omega), dv_take_all hYl] at hrv
        have h1 := dv_nn hrd
        rw [hrl] at h1
        by_cases hcz : c' = 0
        · rw [hcz] at hrv; omega
        · exfalso
          have : c' = -1 := by omega
          rw [this] at hrv
          omega
      have hval : (dv r : Rat) * pw e = ((dv X - dv Y : Int) : Rat) * pw e := by rw [hfin]
      have c23 := hC2.getO c2
      clear hrv hfin hlt0
      repeat' first | (with_reducible (show W _ _ _ _ _); with_reducible refine go2 ?_) | (with_reducible (show W _ _ _ _ _); with_reducible refine sg2 ?_ ?_ <;> intro _) | (with_reducible (show W _ _ _ _ _); with_reducible refine sc2 ?_ ?_ <;> intro _) | (with_reducible (show W _ _ (.code (.region 19 _ true) :: _) _ _); with_reducible refine W_draw [(0, []), (1, []), (2, []), (3, []), (4, []), (5, []), (7, []), (6, [1]), (8, []), (9, [])] [1] (by kernel_rfl) ?_) | (with_reducible (show W _ _ (.code (.region 25 _ true) :: _) _ _); with_reducible refine W_draw [(0, []), (1, []), (2, []), (3, []), (4, []), (5, []), (6, [])] [] (by kernel_rfl) ?_) | ((with_reducible (show CallK _ _ _ _ _ _ _ _ _ _ _); with_reducible refine cx2 (trim_spec hG.dg hrd (by omega) sg (by omega)) ?_))
      intro w C4 hw
      obtain ⟨hO4, s4, sl4, e4, rfl, hN4⟩ := num_trim (K := K + 1) hval (by omega) hbound hw
      have ho4 := hN4.one
      have c24 := hO4.getO c23
      have hl4 := lt_of_hget c24
      clear hval hbound hw
      repeat' first | (with_reducible (show W _ _ _ _ _); with_reducible refine go2 ?_) | (with_reducible (show W _ _ _ _ _); with_reducible refine sg2 ?_ ?_ <;> intro _) | (with_reducible (show W _ _ _ _ _); with_reducible refine sc2 ?_ ?_ <;> intro _) | (with_reducible (show W _ _ (.code (.region 19 _ true) :: _) _ _); with_reducible refine W_draw [(0, []), (1, []), (2, []), (3, []), (4, []), (5, []), (7, []), (6, [1]), (8, []), (9, [])] [1] (by kernel_rfl) ?_) | (with_reducible (show W _ _ (.code (.region 25 _ true) :: _) _ _); with_reducible refine W_draw [(0, []), (1, []), (2, []), (3, []), (4, []), (5, []), (6, [])] [] (by kernel_rfl) ?_)
      exact ⟨(hHC.trans (hC2.trans hO4)).setq _ (by omega), s4, sl4, e4, rfl, hN4.setz c24 _⟩
end Go.Proofs.YtcikcinkjbbnhaaDoor.M
