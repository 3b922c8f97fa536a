/- Exact numbers: differences, comparisons; a pattern's number, a whole number, a power of two. -/
import Derived.Test.YtcikcinkjbbnhaaDoorD10
import Derived.Test.YtcikcinkjbbnhaaDoorY11
set_option linter.unusedSimpArgs false
set_option linter.unusedVariables false
set_option pp.deepTerms false
set_option pp.maxSteps 1500
set_option maxRecDepth 10000
set_option maxHeartbeats 4000000
namespace Go.Proofs.YtcikcinkjbbnhaaDoor.M
open Go Go.Proofs

theorem Old.jk {H C : MH} (h : Old H C) : ∃ J, C = H ++ J := by
  refine ⟨C.drop H.length, ?_⟩
  have : C.take H.length = H := by
    refine List.ext_getElem? fun i => ?_
    rw [List.getElem?_take]
    split
    · exact h.2 i (by assumption)
    · rw [List.getElem?_eq_none (by omega)]
  rw [← List.take_append_drop H.length C, this]
  simp
theorem sub_num {H : MH} {sa sb la lb ea eb} {qa qb : Rat} {K : Int} (ha : Num H sa la ea qa K) (hb : Num H sb lb eb qb K) (hK : 0 ≤ K ∧ K ≤ 1000000000) :
    Spec Tryd.prog 24 [nv sa la ea, nv sb lb eb] H fun u H' => NumR H H' u (qa - qb) (K + 1) := by
  have oa := ha.one
  have ob := hb.one
  refine enterS Tryd.func24 [.cell 4 34] ?_
  repeat' first | (with_reducible (show W _ _ _ _ _); with_reducible refine go2 ?_) | (with_reducible (show W _ _ _ _ _); with_reducible refine sg2 ?_ ?_ <;> intro _) | (with_reducible (show W _ _ (.code (.region 1 _ true) :: _) _ _); with_reducible refine W_draw [(0, []), (1, []), (2, [0]), (3, []), (4, [])] [0] (by kernel_rfl) ?_)
  (with_reducible (show CallK _ _ _ _ _ _ _ _ _ _ _)); with_reducible refine cxh (neg_num (hb.old ((Old.refl H).app _))) ?_
  rintro u C ⟨hC, s1, l1, e1, rfl, hN1⟩
  have c0 := hC.getO (hget_new' (H := H))
  have c2 := hC.getO (hget_newL (H := H) (i := 2) rfl)
  have ho1 := hN1.one
  have hl2 := lt_of_hget c2
  refine ⟨by simp [held_cons, held_nil', sem_load, loadV_ptr, cellsAt_eq, ty_34, c0], ?_⟩
  repeat' first | (with_reducible (show W _ _ _ _ _); with_reducible refine go2 ?_) | (with_reducible (show W _ _ _ _ _); with_reducible refine sg2 ?_ ?_ <;> intro _) | (with_reducible (show W _ _ (.code (.region 1 _ true) :: _) _ _); with_reducible refine W_draw [(0, []), (1, []), (2, [0]), (3, []), (4, [])] [0] (by kernel_rfl) ?_)
  (with_reducible (show CallK _ _ _ _ _ _ _ _ _ _ _)); with_reducible refine cx2 (add_num ((ha.old ((Old.refl H).app _)).old hC) hN1 hK) ?_
  rintro u C2 ⟨hC2, s2, l2, e2, rfl, hN2⟩
  have c22 := hC2.getO c2
  have ho2 := hN2.one
  have hl3 := lt_of_hget c22
  have hq : qa + -qb = qa - qb := by grind
  rw [hq] at hN2
  clear hq
  repeat' first | (with_reducible (show W _ _ _ _ _); with_reducible refine go2 ?_) | (with_reducible (show W _ _ _ _ _); with_reducible refine sg2 ?_ ?_ <;> intro _) | (with_reducible (show W _ _ _ _ _); with_reducible refine sc2 ?_ ?_ <;> intro _) | (with_reducible (show W _ _ (.code (.region 1 _ true) :: _) _ _); with_reducible refine W_draw [(0, []), (1, []), (2, [0]), (3, []), (4, [])] [0] (by kernel_rfl) ?_)
  exact ⟨(((Old.refl H).app _).trans (hC.trans hC2)).setq _ (by omega), s2, l2, e2, rfl, hN2.setz c22 _⟩
theorem cmp_num {H : MH} {sa sb la lb ea eb} {qa qb : Rat} {K : Int} (ha : Num H sa la ea qa K) (hb : Num H sb lb eb qb K) (hK : 0 ≤ K ∧ K ≤ 1000000000) :
    Spec Tryd.prog 19 [nv sa la ea, nv sb lb eb] H fun u H' => u = i64 (sgi (qa - qb)) ∧ H' = H := by
  have oa := ha.one
  have ob := hb.one
  refine Spec.scalar ?_
  refine enterS Tryd.func19 [.tmp 4] ?_
  repeat' first | (with_reducible (show W _ _ _ _ _); with_reducible refine go2 ?_) | (with_reducible (show W _ _ _ _ _); with_reducible refine sg2 ?_ ?_ <;> intro _)
  (with_reducible (show CallK _ _ _ _ _ _ _ _ _ _ _)); with_reducible refine cx2 (sub_num (ha.old ((Old.refl H).app _)) (hb.old ((Old.refl H).app _)) hK) ?_
  rintro u C ⟨hC, s1, l1, e1, rfl, hN1⟩
  obtain ⟨J, rfl⟩ := Old.jk (((Old.refl H).app _).trans hC)
  repeat' first | (with_reducible (show W _ _ _ _ _); with_reducible refine go2 ?_) | (with_reducible (show W _ _ _ _ _); with_reducible refine sg2 ?_ ?_ <;> intro _) | (with_reducible (show W _ _ _ _ _); with_reducible refine sc2 ?_ ?_ <;> intro _) | (with_reducible (show CallK _ _ _ _ _ _ _ _ _ _ _); with_reducible refine ce2 (sign_spec' hN1) ?_)
  all_goals trivial
theorem len2 (a b : Int) : [a, b].length ≤ 1000000000 := by simp
/-- A pattern's number; 0 where it is none. -/
def vx (b : Int) : Rat := if finiteM b = true then val b else 0
theorem vx_fn {b : Int} (h : Fn b) : vx b = val b := if_pos h.fin
theorem of_num {b : Int} (hb : InU b) (H : MH) : Spec Tryd.prog 58 [u64 b] H fun u H' => ∃ u1, u = .tup [u1, bl (finiteM b)] ∧ NumR H H' u1 (vx b) 1100 := by
  refine enterS Tryd.func58 [.cell 2 34, .tmp 3] ?_
  cases hf : finiteM b
  · repeat' first | (with_reducible (show W _ _ _ _ _); with_reducible refine go2 ?_) | (with_reducible (show W _ _ _ _ _); with_reducible refine sg2 ?_ ?_ <;> intro _) | (with_reducible (show W _ _ _ _ _); with_reducible refine sc2 ?_ ?_ <;> intro _) | (with_reducible (show CallK _ _ _ _ _ _ _ _ _ _ _); with_reducible refine ce2 (finite_spec _ _) ?_)
    have : vx b = 0 := by rw [vx, if_neg (by rw [hf]; decide)]
    rw [this]
    first
      | exact ⟨(Old.refl H).app _, false, _, 0, rfl, Num.zero _ _⟩
      | exact ⟨_, rfl, (Old.refl H).app _, false, _, 0, rfl, Num.zero _ _⟩
  · have hp := parts53 hb
    have he := part_e hb hf
    have hbs : ∀ x y : Int, bsV (.slice 1 4 (some [.int .u32 0]) true) 2 [(0, w32 x), (1, w32 y)] = some ([w32 x, w32 y], 1) := fun x y => _root_.id rfl
    have hval : (dv [(partsM b).1 % 4294967296, (partsM b).1 / 4294967296] : Rat) * pw (partsM b).2 = mg b := by
      have : dv [(partsM b).1 % 4294967296, (partsM b).1 / 4294967296] = (partsM b).1 := by
        simp only [dv]; omega
      rw [this]; rfl
    have hvx : vx b = sgn (negM b) * mg b := by rw [vx, if_pos hf]; rfl
    have hlt : mg b < pw 1100 := ltle (mg_lt hb hf) (pw_le (by decide))
    rw [hvx]
    clear hvx
    have w1 := wrap_u32 (partsM b).1
    have w2 := shr64 (x := (partsM b).1) hp.1
    have w3 : IntKind.u32.wrap ((partsM b).1 / 4294967296) = (partsM b).1 / 4294967296 := by rw [wrap_u32]; omega
    have hD : D32 [(partsM b).1 % 4294967296, (partsM b).1 / 4294967296] := D32.cons.2 ⟨⟨by omega, by omega⟩, D32.cons.2 ⟨⟨by omega, by omega⟩, D32.nil⟩⟩
    have hDg : ∀ (x : Option MO) (L : MH) (lo hi : Int), Dg (H ++ x :: some ⟨[w32 lo, w32 hi], true⟩ :: L) (.slice (H.length + 1) 0 2 2 1) [lo, hi] := fun x L lo hi => ⟨H.length + 1, 0, 2, _, rfl, hget_newL rfl, Nat.le_refl 2, fun i h => by
      match i, h with
      | 0, _ => rfl
      | 1, _ => rfl⟩
    repeat' first | (with_reducible (show W _ _ _ _ _); with_reducible refine go2 ?_) | (with_reducible (show W _ _ _ _ _); with_reducible refine sg2 ?_ ?_ <;> intro _) | (with_reducible (show W _ _ _ _ _); with_reducible refine sc2 ?_ ?_ <;> intro _) | (with_reducible (show CallK _ _ _ _ _ _ _ _ _ _ _); with_reducible refine ce2 (finite_spec _ _) ?_) | (with_reducible (show CallK _ _ _ _ _ _ _ _ _ _ _); with_reducible refine ce2 (parts_spec _ _) ?_) | (with_reducible (show CallK _ _ _ _ _ _ _ _ _ _ _); with_reducible refine ce2 (neg_spec _ _) ?_) | ((with_reducible (show CallK _ _ _ _ _ _ _ _ _ _ _); with_reducible refine cx2 (trim_spec (hDg _ _ _ _) hD (len2 _ _) _ (by omega)) ?_))
    intro w C4 hw
    obtain ⟨hO4, s4, sl4, e4, rfl, hN4⟩ := num_trim (K := 1100) hval (by omega) hlt hw
    have ho4 := hN4.one
    have c24 := hO4.getO (hget_new' (H := H))
    have hl4 := lt_of_hget c24
    clear hval hlt hw
    repeat' first | (with_reducible (show W _ _ _ _ _); with_reducible refine go2 ?_) | (with_reducible (show W _ _ _ _ _); with_reducible refine sg2 ?_ ?_ <;> intro _) | (with_reducible (show W _ _ _ _ _); with_reducible refine sc2 ?_ ?_ <;> intro _)
    first
      | exact ⟨_, rfl, (((Old.refl H).app _).trans hO4).setq _ (by omega), s4, sl4, e4, rfl, hN4.setz c24 _⟩
      | exact ⟨(((Old.refl H).app _).trans hO4).setq _ (by omega), s4, sl4, e4, rfl, hN4.setz c24 _⟩
theorem two_num (e : Int) (he : -1000000 ≤ e ∧ e ≤ 1000000) {K : Int} (hK : -K ≤ e ∧ e < K) (H : MH) : Spec Tryd.prog 25 [i64 e] H fun u H' => NumR H H' u (pw e) K := by
  have hbs : bsV (.slice 1 4 (some [.int .u32 0]) true) 1 [(0, w32 1)] = some ([w32 1], 1) := _root_.id rfl
  have h1 : (if 1048576 < e then 1048576 else e) = e := if_neg (by omega)
  have h2 : (if (-1048576 : Int) < e then e else -1048576) = e := if_pos (by omega)
  refine enterS Tryd.func25 [.cell 2 34] ?_
  repeat' first | (with_reducible (show W _ _ _ _ _); with_reducible refine go2 ?_) | (with_reducible (show W _ _ _ _ _); with_reducible refine sg2 ?_ ?_ <;> intro _) | (with_reducible (show W _ _ _ _ _); with_reducible refine sc2 ?_ ?_ <;> intro _)
  refine ⟨(Old.refl H).app _, false, _, e, rfl, .inr ⟨[1], ⟨H.length + 1, 0, 1, _, rfl, hget_newL rfl, by decide, fun i h => ?_⟩, ?_, ⟨by decide, by decide⟩, by decide, ?_, hK.1, ?_⟩⟩
  · match i, h with
    | 0, _ => rfl
  · intro x hx
    have : x = 1 := by simpa using hx
    subst this; decide
  · have : dv [1] = 1 := by decide
    rw [this]; simp [sgn]
  · have : dv [1] = 1 := by decide
    rw [this]
    have h3 := pw_lt hK.2
    simpa using h3
theorem int_num (n : Int) (hn : -4000000000000000000 ≤ n ∧ n ≤ 4000000000000000000) (H : MH) : Spec Tryd.prog 20 [i64 n] H fun u H' => NumR H H' u (n : Rat) 64 := by
  have hbs : ∀ x y : Int, bsV (.slice 1 4 (some [.int .u32 0]) true) 2 [(0, w32 x), (1, w32 y)] = some ([w32 x, w32 y], 1) := fun x y => _root_.id rfl
  obtain ⟨m, hm⟩ : ∃ m : Int, (if n < 0 then -n else n) = m := ⟨_, rfl⟩
  have hm0 : 0 ≤ m ∧ m ≤ 4000000000000000000 := by omega
  have hD : D32 [m % 4294967296, m / 4294967296] := D32.cons.2 ⟨⟨by omega, by omega⟩, D32.cons.2 ⟨⟨by omega, by omega⟩, D32.nil⟩⟩
  have hval : (dv [m % 4294967296, m / 4294967296] : Rat) * pw 0 = (m : Rat) := by
    have : dv [m % 4294967296, m / 4294967296] = m := by simp only [dv]; omega
    rw [this, pw_zero, Rat.mul_one]
  have hlt : (m : Rat) < pw 64 := by
    rw [pw_lit (n := 64) (k := 18446744073709551616) (by decide) (by decide)]
    exact ilt (by omega)
  have hq : (n : Rat) = sgn (decide (n < 0)) * (m : Rat) := by
    by_cases h : n < 0
    · have : m = -n := by rw [← hm, if_pos h]
      rw [this, decide_eq_true h]
      simp [sgn]
      grind
    · have : m = n := by rw [← hm, if_neg h]
      rw [this, decide_eq_false h]
      simp [sgn]
  rw [hq]
  have w1 := wrap_u32 m
  have w2 := shr64 (x := m) hm0.1
  have w3 : IntKind.u32.wrap (m / 4294967296) = m / 4294967296 := by rw [wrap_u32]; omega
  have hDg : ∀ (x : Option MO) (L : MH) (lo hi : Int), Dg (H ++ x :: some ⟨[w32 lo, w32 hi], true⟩ :: L) (.slice (H.length + 1) 0 2 2 1) [lo, hi] := fun x L lo hi => ⟨H.length + 1, 0, 2, _, rfl, hget_newL rfl, Nat.le_refl 2, fun i h => by
    match i, h with
    | 0, _ => rfl
    | 1, _ => rfl⟩
  refine enterS Tryd.func20 [.cell 2 34] ?_
  by_cases h : n < 0
  · have hmn : m = -n := by rw [← hm, if_pos h]
    have x1 : IntKind.u64.wrap n = n + 18446744073709551616 := by rw [wrap_u64]; omega
    have x2 : IntKind.u64.wrap (0 - (n + 18446744073709551616)) = m := by rw [wrap_u64]; omega
    have x3 : IntKind.u64.wrap (-(n + 18446744073709551616)) = m := by rw [wrap_u64]; omega
    clear hm hmn hq
    repeat' first | (with_reducible (show W _ _ _ _ _); with_reducible refine go2 ?_) | (with_reducible (show W _ _ _ _ _); with_reducible refine sg2 ?_ ?_ <;> intro _) | (with_reducible (show W _ _ _ _ _); with_reducible refine sc2 ?_ ?_ <;> intro _) | ((with_reducible (show CallK _ _ _ _ _ _ _ _ _ _ _); with_reducible refine cx2 (trim_spec (hDg _ _ _ _) hD (len2 _ _) _ (by omega)) ?_))
    intro w C4 hw
    obtain ⟨hO4, s4, sl4, e4, rfl, hN4⟩ := num_trim (K := 64) hval (by omega) hlt hw
    have ho4 := hN4.one
    have c24 := hO4.getO (hget_new' (H := H))
    have hl4 := lt_of_hget c24
    clear hval hlt hw
    repeat' first | (with_reducible (show W _ _ _ _ _); with_reducible refine go2 ?_) | (with_reducible (show W _ _ _ _ _); with_reducible refine sg2 ?_ ?_ <;> intro _) | (with_reducible (show W _ _ _ _ _); with_reducible refine sc2 ?_ ?_ <;> intro _)
    exact ⟨(((Old.refl H).app _).trans hO4).setq _ (by omega), s4, sl4, e4, rfl, hN4.setz c24 _⟩
  · have hmn : n = m := by rw [← hm, if_neg h]
    have x1 : IntKind.u64.wrap n = m := by rw [wrap_u64]; omega
    clear hm hmn hq
    repeat' first | (with_reducible (show W _ _ _ _ _); with_reducible refine go2 ?_) | (with_reducible (show W _ _ _ _ _); with_reducible refine sg2 ?_ ?_ <;> intro _) | (with_reducible (show W _ _ _ _ _); with_reducible refine sc2 ?_ ?_ <;> intro _) | ((with_reducible (show CallK _ _ _ _ _ _ _ _ _ _ _); with_reducible refine cx2 (trim_spec (hDg _ _ _ _) hD (len2 _ _) _ (by omega)) ?_))
    intro w C4 hw
    obtain ⟨hO4, s4, sl4, e4, rfl, hN4⟩ := num_trim (K := 64) hval (by omega) hlt hw
    have ho4 := hN4.one
    have c24 := hO4.getO (hget_new' (H := H))
    have hl4 := lt_of_hget c24
    clear hval hlt hw
    repeat' first | (with_reducible (show W _ _ _ _ _); with_reducible refine go2 ?_) | (with_reducible (show W _ _ _ _ _); with_reducible refine sg2 ?_ ?_ <;> intro _) | (with_reducible (show W _ _ _ _ _); with_reducible refine sc2 ?_ ?_ <;> intro _)
    exact ⟨(((Old.refl H).app _).trans hO4).setq _ (by omega), s4, sl4, e4, rfl, hN4.setz c24 _⟩
end Go.Proofs.YtcikcinkjbbnhaaDoor.M
