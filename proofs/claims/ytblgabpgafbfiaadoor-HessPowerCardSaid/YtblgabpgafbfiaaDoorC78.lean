/- Exact numbers that are nothing. -/
import Derived.Test.YtblgabpgafbfiaaDoorC37
import Derived.Test.YtblgabpgafbfiaaDoorMT3
set_option linter.unusedSimpArgs false
set_option linter.unusedVariables false
set_option pp.deepTerms false
set_option pp.maxSteps 1500
set_option maxRecDepth 10000
set_option maxHeartbeats 4000000
namespace Go.Proofs.YtblgabpgafbfiaaDoor.M
open Go Go.Proofs

abbrev nz : MV := .agg [bl false, .lit (.slice none 0 0), i64 0]
abbrev u32 (n : Int) : MV := .lit (.int .u32 n)
theorem trim_zero (s : Bool) (e : Int) {H : MH} {p c : Nat} {rw : Bool} (hp : hget H p = some ⟨[u32 0, u32 0], rw⟩) (hc : 2 ≤ c) : Spec Tryd.prog 62 [bl s, .slice p 0 2 c 1, i64 e] H fun v H' => v = nz ∧ H' = H := by
  refine Spec.scalar (enterS Tryd.func62 [.cell 6 34] ?_)
  have e1 : IntKind.i64.wrap ((1 : Int) - 1) = 0 := by decide
  have e2 : IntKind.i64.wrap ((2 : Int) - 1) = 1 := by decide
  have hpl := lt_of_hget hp
  have z0 : (0 : Int).toNat = 0 := _root_.id rfl
  have z1 : (1 : Int).toNat = 1 := _root_.id rfl
  have z2 : ((2 : Nat) : Int) = 2 := _root_.id rfl
  have z3 : ((1 : Nat) : Int) = 1 := _root_.id rfl
  have z4 : ((0 : Nat) : Int) = 0 := _root_.id rfl
  repeat' first | (with_reducible (show W _ _ _ _ _); with_reducible refine go2 ?_) | (with_reducible (show W _ _ _ _ _); with_reducible refine sg2 ?_ ?_ <;> intro _)
  refine W_for (fun j ρ H' => j ≤ 2 ∧ ρ 0 = bl s ∧ ρ 1 = .slice p 0 2 c 1 ∧ ρ 2 = i64 e ∧ ρ 6 = .ptr H.length 0 ∧ ρ 7 = i64 (j : Int) ∧ H' = H ++ [some ⟨[bl false, .lit (.slice none 0 0), i64 0], true⟩]) 2 ?_ ?_
  · exact ⟨Nat.le_refl _, rfl, rfl, rfl, rfl, rfl, rfl⟩
  rintro j ρ H' ⟨hj, h0, h1, h2, h6, h7, rfl⟩
  have hpA := hget_appL (L := [some ⟨[bl false, .lit (.slice none 0 0), i64 0], true⟩]) hp
  match j, hj with
  | 0, _ =>
    repeat' first | (with_reducible (show W _ _ _ _ _); with_reducible refine go2 ?_) | (with_reducible (show W _ _ _ _ _); with_reducible refine sg2 ?_ ?_ <;> intro _) | (with_reducible (show W _ _ _ _ _); with_reducible refine sc2 ?_ ?_ <;> intro _)
    simp
  | 1, _ =>
    repeat' first | (with_reducible (show W _ _ _ _ _); with_reducible refine go2 ?_) | (with_reducible (show W _ _ _ _ _); with_reducible refine sg2 ?_ ?_ <;> intro _) | (with_reducible (show W _ _ _ _ _); with_reducible refine sc2 ?_ ?_ <;> intro _)
    exact ⟨0, by omega, by omega, rfl⟩
  | 2, _ =>
    repeat' first | (with_reducible (show W _ _ _ _ _); with_reducible refine go2 ?_) | (with_reducible (show W _ _ _ _ _); with_reducible refine sg2 ?_ ?_ <;> intro _) | (with_reducible (show W _ _ _ _ _); with_reducible refine sc2 ?_ ?_ <;> intro _)
    exact ⟨1, by omega, by omega, rfl⟩
theorem parts_zero {b : Int} (hb : InU b) (hz : kindM b = 1) : partsM b = (0, 0) := by
  unfold partsM
  simp [hz]
theorem of_zero {b : Int} (hb : InU b) (hz : kindM b = 1) (hf : finiteM b = true) (H : MH) : Spec Tryd.prog 58 [u64 b] H fun v H' => v = .tup [nz, bl true] ∧ H' = H := by
  have hp := parts_zero hb hz
  have s1 : IntKind.u32.wrap 0 = 0 := by decide
  have s2 : shrV .u64 0 32 = 0 := by decide
  have hbs : bsV (.slice 1 4 (some [.int .u32 0]) true) 2 [(0, u32 0), (1, u32 0)] = some ([u32 0, u32 0], 1) := rfl
  refine Spec.scalar (enterS Tryd.func58 [.cell 2 34, .tmp 3] ?_)
  repeat' first | (with_reducible (show W _ _ _ _ _); with_reducible refine go2 ?_) | (with_reducible (show W _ _ _ _ _); with_reducible refine sg2 ?_ ?_ <;> intro _) | (with_reducible (show CallK _ _ _ _ _ _ _ _ _ _ _); with_reducible refine ce2 (finite_spec _ _) ?_) | (with_reducible (show CallK _ _ _ _ _ _ _ _ _ _ _); with_reducible refine ce2 (parts_spec _ _) ?_) | (with_reducible (show CallK _ _ _ _ _ _ _ _ _ _ _); with_reducible refine ce2 (neg_spec _ _) ?_) | ((with_reducible (show CallK _ _ _ _ _ _ _ _ _ _ _); with_reducible refine ce2 (trim_zero _ _ (hget_newL rfl) (by decide)) ?_))
  all_goals trivial
theorem mul_zero (H : MH) : Spec Tryd.prog 23 [nz, nz] H fun v H' => v = nz ∧ H' = H := by
  refine Spec.scalar (enterS Tryd.func23 [.cell 4 34] ?_)
  repeat' first | (with_reducible (show W _ _ _ _ _); with_reducible refine go2 ?_) | (with_reducible (show W _ _ _ _ _); with_reducible refine sg2 ?_ ?_ <;> intro _) | (with_reducible (show W _ _ _ _ _); with_reducible refine sc2 ?_ ?_ <;> intro _)
  all_goals trivial
theorem add_zero (H : MH) : Spec Tryd.prog 28 [nz, nz] H fun v H' => v = nz ∧ H' = H := by
  refine Spec.scalar (enterS Tryd.func28 [.cell 4 34] ?_)
  repeat' first | (with_reducible (show W _ _ _ _ _); with_reducible refine go2 ?_) | (with_reducible (show W _ _ _ _ _); with_reducible refine sg2 ?_ ?_ <;> intro _) | (with_reducible (show W _ _ _ _ _); with_reducible refine sc2 ?_ ?_ <;> intro _) | (with_reducible (show W _ _ (.code (.region 19 _ true) :: _) _ _); with_reducible refine W_draw [(0, []), (1, []), (2, []), (3, []), (4, []), (5, []), (7, []), (6, [1]), (8, []), (9, [])] [1] (by kernel_rfl) ?_) | (with_reducible (show W _ _ (.code (.region 25 _ true) :: _) _ _); with_reducible refine W_draw [(0, []), (1, []), (2, []), (3, []), (4, []), (5, []), (6, [])] [] (by kernel_rfl) ?_)
  all_goals trivial
theorem sign_zero (H : MH) : Spec Tryd.prog 38 [nz] H fun v H' => v = i64 0 ∧ H' = H := by
  refine Spec.scalar (enterS Tryd.func38 [.tmp 2] ?_)
  repeat' first | (with_reducible (show W _ _ _ _ _); with_reducible refine go2 ?_) | (with_reducible (show W _ _ _ _ _); with_reducible refine sg2 ?_ ?_ <;> intro _) | (with_reducible (show W _ _ _ _ _); with_reducible refine sc2 ?_ ?_ <;> intro _)
  all_goals trivial
theorem Old.exJ {H C : MH} (h : Old H C) : ∃ J, C = H ++ J := by
  refine ⟨C.drop H.length, ?_⟩
  have : C.take H.length = H := by
    refine List.ext_getElem? fun i => ?_
    rw [List.getElem?_take]
    split
    · exact h.2 i (by assumption)
    · rw [List.getElem?_eq_none (by omega)]
  rw [← List.take_append_drop H.length C, this]
  simp
theorem square_zero {r c : Int} {p z : Nat} {D : List Int} (h : MatOk r c D) {N : Nat} (hN : D.length = N) {H : MH} {rw : Bool} (hp : hget H p = some ⟨D.map u64, rw⟩) (hz : ∀ i k : Nat, (i : Int) < r → (k : Int) < c → InU (atM r c c D i k) ∧ kindM (atM r c c D i k) = 1 ∧ finiteM (atM r c c D i k) = true) :
    Spec Tryd.prog 37 [mx r c c p N z] H fun v H' => v = nz ∧ H' = H := by
  have hr := h.r0
  have hc := h.c0
  have hr1 := h.r1
  have hc1 := h.c1
  refine Spec.scalar (enterS Tryd.func37 [.cell 2 34] ?_)
  repeat' first | (with_reducible (show W _ _ _ _ _); with_reducible refine go2 ?_) | (with_reducible (show W _ _ _ _ _); with_reducible refine sg2 ?_ ?_ <;> intro _) | (with_reducible (show W _ _ _ _ _); with_reducible refine sc2 ?_ ?_ <;> intro _) | (with_reducible (show W _ _ (.code (.region 9 _ true) :: _) _ _); with_reducible refine W_draw [(0, []), (1, []), (2, []), (3, [0]), (4, []), (5, [])] [0] (by kernel_rfl) ?_)
  refine W_for (fun j ρ C => ∃ i : Nat, i + j = r.toNat ∧ ρ 1 = .ptr H.length 0 ∧ ρ 2 = .ptr (H.length + 1) 0 ∧ ρ 3 = .ptr (H.length + 2) 0 ∧ ρ 9 = i64 r ∧ ρ 10 = i64 (i : Int) ∧ Old H C ∧ hget C H.length = some ⟨[i64 r, i64 c, i64 c, .slice p 0 N z 1], true⟩ ∧ hget C (H.length + 1) = some ⟨[bl false, .lit (.slice none 0 0), i64 0], true⟩ ∧ hget C (H.length + 2) = some ⟨[bl false, .lit (.slice none 0 0), i64 0], true⟩) r.toNat ?_ ?_
  · exact ⟨0, by omega, rfl, rfl, rfl, rfl, rfl, (Old.refl H).app _, hget_new', hget_newL rfl, hget_newL rfl⟩
  rintro j ρ C ⟨i, hi, h1, h2, h3, h9, h10, hO, b1, b2, b3⟩
  have g1 := lt_of_hget b1
  have g2 := lt_of_hget b2
  have g3 := lt_of_hget b3
  by_cases hir : (i : Int) < r
  · have hir2 : ((i : Int) < r) = True := eq_true hir
    repeat' first | (with_reducible (show W _ _ _ _ _); with_reducible refine go2 ?_) | (with_reducible (show W _ _ _ _ _); with_reducible refine sg2 ?_ ?_ <;> intro _) | (with_reducible (show W _ _ _ _ _); with_reducible refine sc2 ?_ ?_ <;> intro _) | (with_reducible (show W _ _ (.code (.region 9 _ true) :: _) _ _); with_reducible refine W_draw [(0, []), (1, []), (2, []), (3, [0]), (4, []), (5, [])] [0] (by kernel_rfl) ?_)
    refine W_for (fun j' ρ C => ∃ k : Nat, k + j' = c.toNat ∧ ρ 1 = .ptr H.length 0 ∧ ρ 2 = .ptr (H.length + 1) 0 ∧ ρ 3 = .ptr (H.length + 2) 0 ∧ ρ 4 = i64 (i : Int) ∧ ρ 9 = i64 r ∧ ρ 10 = i64 (i : Int) ∧ ρ 14 = i64 c ∧ ρ 15 = i64 (k : Int) ∧ Old H C ∧ hget C H.length = some ⟨[i64 r, i64 c, i64 c, .slice p 0 N z 1], true⟩ ∧ hget C (H.length + 1) = some ⟨[bl false, .lit (.slice none 0 0), i64 0], true⟩ ∧ hget C (H.length + 2) = some ⟨[bl false, .lit (.slice none 0 0), i64 0], true⟩) c.toNat ?_ ?_
    · exact ⟨0, by omega, h1, h2, h3, rfl, h9, h10, rfl, rfl, hO, b1, b2, b3⟩
    clear h1 h2 h3 h9 h10 hO b1 b2 b3 g1 g2 g3
    rintro j' ρ' C ⟨k, hk, h1, h2, h3, h4, h9, h10, h14, h15, hO, b1, b2, b3⟩
    have g1 := lt_of_hget b1
    have g2 := lt_of_hget b2
    have g3 := lt_of_hget b3
    by_cases hkc : (k : Int) < c
    · have hkc2 : ((k : Int) < c) = True := eq_true hkc
      obtain ⟨z1, z2, z3⟩ := hz i k hir hkc
      have hpC := hO.get hp
      have b3L : ∀ L : MH, hget (C ++ L) (H.length + 2) = _ := fun L => hget_appL b3
      have ek : IntKind.i64.wrap ((k : Int) + 1) = ((k + 1 : Nat) : Int) := by rw [wrap_i64 (by omega)]; omega
      have hAt := at_ok h (i : Int) (k : Int) hpC (z := z) hN
      repeat' first | (with_reducible (show W _ _ _ _ _); with_reducible refine go2 ?_) | (with_reducible (show W _ _ _ _ _); with_reducible refine sg2 ?_ ?_ <;> intro _) | (with_reducible (show W _ _ _ _ _); with_reducible refine sc2 ?_ ?_ <;> intro _) | (with_reducible (show CallK _ _ _ _ _ _ _ _ _ _ _); with_reducible refine ce2 (hAt) ?_) | (with_reducible (show CallK _ _ _ _ _ _ _ _ _ _ _); with_reducible refine ce2 (of_zero z1 z2 z3 _) ?_) | (with_reducible (show CallK _ _ _ _ _ _ _ _ _ _ _); with_reducible refine ce2 (mul_zero _) ?_) | (with_reducible (show CallK _ _ _ _ _ _ _ _ _ _ _); with_reducible refine ce2 (add_zero _) ?_) | (with_reducible (show W _ _ (.code (.region 9 _ true) :: _) _ _); with_reducible refine W_draw [(0, []), (1, []), (2, []), (3, [0]), (4, []), (5, [])] [0] (by kernel_rfl) ?_)
      all_goals refine ⟨j' - 1, by omega, k + 1, by omega, rfl, ?_⟩
      all_goals exact ⟨(hO.setq _ (by omega)).app _, (hget_set_ne (by omega) _).trans b1, (hget_set_ne (by omega) _).trans b2⟩
    · have hkc2 : ((k : Int) < c) = False := eq_false hkc
      have ei : IntKind.i64.wrap ((i : Int) + 1) = ((i + 1 : Nat) : Int) := by rw [wrap_i64 (by omega)]; omega
      repeat' first | (with_reducible (show W _ _ _ _ _); with_reducible refine go2 ?_) | (with_reducible (show W _ _ _ _ _); with_reducible refine sg2 ?_ ?_ <;> intro _) | (with_reducible (show W _ _ _ _ _); with_reducible refine sc2 ?_ ?_ <;> intro _) | (with_reducible (show W _ _ (.code (.region 9 _ true) :: _) _ _); with_reducible refine W_draw [(0, []), (1, []), (2, []), (3, [0]), (4, []), (5, [])] [0] (by kernel_rfl) ?_)
      all_goals exact ⟨j - 1, by omega, i + 1, by omega, rfl⟩
  · have hir2 : ((i : Int) < r) = False := eq_false hir
    repeat' first | (with_reducible (show W _ _ _ _ _); with_reducible refine go2 ?_) | (with_reducible (show W _ _ _ _ _); with_reducible refine sg2 ?_ ?_ <;> intro _) | (with_reducible (show W _ _ _ _ _); with_reducible refine sc2 ?_ ?_ <;> intro _) | (with_reducible (show W _ _ (.code (.region 9 _ true) :: _) _ _); with_reducible refine W_draw [(0, []), (1, []), (2, []), (3, [0]), (4, []), (5, [])] [0] (by kernel_rfl) ?_)
    exact (hO.setq _ (by omega)).exJ
end Go.Proofs.YtblgabpgafbfiaaDoor.M
