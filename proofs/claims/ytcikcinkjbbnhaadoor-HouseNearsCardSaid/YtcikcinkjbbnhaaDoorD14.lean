/- Two lists near each other. -/
import Derived.Test.YtcikcinkjbbnhaaDoorD13
set_option linter.unusedSimpArgs false
set_option linter.unusedVariables false
set_option pp.deepTerms false
set_option pp.maxSteps 1500
set_option maxRecDepth 10000
set_option maxHeartbeats 4000000
namespace Go.Proofs.YtcikcinkjbbnhaaDoor.M
open Go Go.Proofs

def difR (a b : List Rat) (k : Nat) : List Rat := (List.range k).map fun i => a.getD i 0 - b.getD i 0
theorem difR_len (a b : List Rat) (k : Nat) : (difR a b k).length = k := by simp [difR]
theorem difR_succ (a b : List Rat) (k : Nat) : difR a b (k + 1) = difR a b k ++ [a.getD k 0 - b.getD k 0] := by
  simp [difR, List.range_succ]
def nearR (a b : List Rat) (units : Int) (q : Rat) : Prop := dotR (difR a b a.length) (difR a b a.length) a.length ≤ q * ((units : Rat) * pw (-53)) * ((units : Rat) * pw (-53))
open Classical in
noncomputable def nearB (a b : List Rat) (units : Int) (q : Rat) : Bool := decide (nearR a b units q)
theorem sgi_le {x : Rat} : sgi x ≤ 0 ↔ x ≤ 0 := by
  unfold sgi
  split
  · rename_i h; rw [h]; exact ⟨fun _ => Rat.le_refl, fun _ => Int.le_refl _⟩
  · rename_i h
    split
    · rename_i h2; exact ⟨fun _ => Rat.le_of_lt h2, fun _ => by decide⟩
    · rename_i h2
      exact ⟨fun h3 => absurd h3 (by decide), fun h3 => absurd (lt_of_le_ne h3 h) h2⟩
theorem near13 {H : MH} {u v : MV} {a b : List Rat} {units : Int} {s sl e} {q : Rat} {K L : Int} (hu : Nl [] H u a K) (hv : Nl [] H v b K) (hab : a.length ≤ b.length) (hn : a.length ≤ 1000) (hun : 0 ≤ units ∧ units ≤ 1000000000) (hq : Num H s sl e q L) (hK : 0 ≤ K ∧ K ≤ 10000000) (hL : 0 ≤ L ∧ L ≤ 10000000) :
    Spec Tryd.prog 13 [u, v, i64 units, nv s sl e] H fun r H' => r = bl (nearB a b units q) ∧ H' = H := by
  have ho := hq.one
  obtain ⟨px, cx, cellx, rfl, hcx, hpx, hlx, hnx, _, hex⟩ := id hu
  obtain ⟨py, cy, celly, rfl, hcy, hpy, hly, hny, _, hey⟩ := id hv
  obtain ⟨n, hne⟩ : ∃ n, a.length = n := ⟨_, rfl⟩
  obtain ⟨nb, hnbe⟩ : ∃ nb, b.length = nb := ⟨_, rfl⟩
  rw [hne] at hcx hlx hex hn
  rw [hnbe] at hcy hly hey
  rw [hne, hnbe] at hab
  rw [hne, hnbe]
  have f3 : ∀ m : Nat, (0 ≤ (m : Int)) = True := fun m => eq_true (by omega)
  have f5 : ∀ m : Nat, (m : Int).toNat = m := fun m => Int.toNat_natCast m
  have hb0 := bsV_num0
  have hb1 := bsV_num
  have hty : (ty Tryd.prog 31).k = .slice 3 40 (some [.bool false, .slice none 0 0, .int .i64 0]) false := by rw [ty_31]
  refine Spec.scalar (enterS Tryd.func13 [.tmp 8] ?_)
  repeat' first | (with_reducible (show W _ _ _ _ _); with_reducible refine go2 ?_) | (with_reducible (show W _ _ _ _ _); with_reducible refine sg2 ?_ ?_ <;> intro _) | (with_reducible (show W _ _ (.code (.region 5 _ true) :: _) _ _); with_reducible refine W_draw [(0, []), (1, []), (2, []), (3, []), (4, []), (5, []), (6, []), (7, []), (8, []), (9, []), (10, []), (11, []), (12, [])] [] (by kernel_rfl) ?_) | (with_reducible (show W _ _ (.code (.region 8 _ true) :: _) _ _); with_reducible refine W_draw [(0, []), (1, []), (3, []), (4, []), (6, []), (2, [3, 4, 6]), (5, [6]), (7, []), (8, []), (9, []), (10, [])] [3, 4, 6] (by kernel_rfl) ?_)
  obtain ⟨B, hB⟩ : ∃ B, H ++ [some ⟨[bl s, sl, i64 e], true⟩] = B := ⟨_, rfl⟩
  have hBl : B.length = H.length + 1 := by rw [← hB]; simp
  have hOB : Old H B := by rw [← hB]; exact (Old.refl _).app _
  have cB : hget B H.length = some ⟨[bl s, sl, i64 e], true⟩ := by rw [← hB]; exact hget_new'
  refine W_for (fun j ρ C => ∃ k : Nat, k + j = n ∧ Nl B C (ρ 9) (difR a b k) (K + 1) ∧ Old B C ∧ ρ 0 = .slice px 0 n cx 3 ∧ ρ 1 = .slice py 0 nb cy 3 ∧ ρ 2 = i64 units ∧ ρ 7 = .ptr H.length 0 ∧ ρ 14 = i64 (n : Int) ∧ ρ 15 = i64 (k : Int)) n ?_ ?_
  · refine ⟨0, by omega, ?_, ?_, rfl, rfl, rfl, rfl, rfl, rfl⟩
    · show Nl B _ (.slice _ 0 0 _ 3) [] _
      refine Nl.nil _ (p := H.length + 1) ?_ (by omega)
      exact hget_newL rfl
    · rw [← hB]
      refine ⟨by simp, fun q hq => ?_⟩
      rw [show H ++ [some ⟨[bl s, sl, i64 e], true⟩, some ⟨[], true⟩] = (H ++ [some (MO.mk [bl s, sl, i64 e] true)]) ++ [some (MO.mk [] true)] by simp, List.getElem?_append_left hq]
  rintro j ρ C ⟨k, hk, hL', hC, h0, h1, h2, h7, h14, h15⟩
  obtain ⟨w, hw⟩ : ∃ w, ρ 9 = w := ⟨_, rfl⟩
  rw [hw] at hL'
  have hHC := hOB.trans hC
  by_cases hlt : (k : Int) < n
  · have e1 : IntKind.i64.wrap ((k : Int) + 1) = ((k + 1 : Nat) : Int) := by rw [wrap_i64 (by omega)]; omega
    obtain ⟨s5, l5, e5, hd5, hN5⟩ := hex k (by omega)
    obtain ⟨s6, l6, e6, hd6, hN6⟩ := hey k (by omega)
    have ho5 := hN5.one
    have ho6 := hN6.one
    have f7 : (k * 3 + 3 ≤ n * 3) = True := eq_true (by omega)
    have f8 : (k * 3 + 3 ≤ nb * 3) = True := eq_true (by omega)
    have f9 : ((k : Int) < (nb : Int)) = True := eq_true (by omega)
    have hpxC := hHC.getO hpx
    have hpyC := hHC.getO hpy
    have hstep := difR_succ a b k
    replace hstep : Hid2 _ := hstep
    repeat' first | (with_reducible (show W _ _ _ _ _); with_reducible refine go2 ?_) | (with_reducible (show W _ _ _ _ _); with_reducible refine sg2 ?_ ?_ <;> intro _) | (with_reducible (show W _ _ (.code (.region 5 _ true) :: _) _ _); with_reducible refine W_draw [(0, []), (1, []), (2, []), (3, []), (4, []), (5, []), (6, []), (7, []), (8, []), (9, []), (10, []), (11, []), (12, [])] [] (by kernel_rfl) ?_) | (with_reducible (show W _ _ (.code (.region 8 _ true) :: _) _ _); with_reducible refine W_draw [(0, []), (1, []), (3, []), (4, []), (6, []), (2, [3, 4, 6]), (5, [6]), (7, []), (8, []), (9, []), (10, [])] [3, 4, 6] (by kernel_rfl) ?_)
    (with_reducible (show CallK _ _ _ _ _ _ _ _ _ _ _)); with_reducible refine cx2 (sub_num (hN5.old hHC) (hN6.old hHC) (by omega)) ?_
    rintro w8 C8 ⟨hC8, s8, l8, e8, rfl, hN8⟩
    have ho8 := hN8.one
    repeat' first | (with_reducible (show W _ _ _ _ _); with_reducible refine go2 ?_) | (with_reducible (show W _ _ _ _ _); with_reducible refine sg2 ?_ ?_ <;> intro _) | (with_reducible (show W _ _ (.code (.region 5 _ true) :: _) _ _); with_reducible refine W_draw [(0, []), (1, []), (2, []), (3, []), (4, []), (5, []), (6, []), (7, []), (8, []), (9, []), (10, []), (11, []), (12, [])] [] (by kernel_rfl) ?_) | (with_reducible (show W _ _ (.code (.region 8 _ true) :: _) _ _); with_reducible refine W_draw [(0, []), (1, []), (3, []), (4, []), (6, []), (2, [3, 4, 6]), (5, [6]), (7, []), (8, []), (9, []), (10, [])] [3, 4, 6] (by kernel_rfl) ?_)
    (with_reducible (show AppK _ _ _ _ _ _ _ _ _ _)); with_reducible refine app_nl (hC.trans hC8) (hL'.old hC8) (by rw [difR_len]; omega) hty ⟨by decide, rfl, by decide⟩ hN8 rfl rfl rfl ?_
    intro v' C9 hC9 hL9 _
    refine ⟨held_none _ _ _, ?_⟩
    rw [← show difR a b (k + 1) = _ from hstep] at hL9
    repeat' first | (with_reducible (show W _ _ _ _ _); with_reducible refine go2 ?_) | (with_reducible (show W _ _ _ _ _); with_reducible refine sg2 ?_ ?_ <;> intro _) | (with_reducible (show W _ _ _ _ _); with_reducible refine sc2 ?_ ?_ <;> intro _) | (with_reducible (show W _ _ (.code (.region 5 _ true) :: _) _ _); with_reducible refine W_draw [(0, []), (1, []), (2, []), (3, []), (4, []), (5, []), (6, []), (7, []), (8, []), (9, []), (10, []), (11, []), (12, [])] [] (by kernel_rfl) ?_) | (with_reducible (show W _ _ (.code (.region 8 _ true) :: _) _ _); with_reducible refine W_draw [(0, []), (1, []), (3, []), (4, []), (6, []), (2, [3, 4, 6]), (5, [6]), (7, []), (8, []), (9, []), (10, [])] [3, 4, 6] (by kernel_rfl) ?_)
    all_goals first
      | exact ⟨j - 1, by omega, k + 1, by omega, hL9, hC9, rfl⟩
      | exact ⟨j - 1, by omega, k + 1, by omega, hL9, rfl⟩
  · have hkn : k = n := by omega
    rw [hkn] at hL'
    clear hkn
    have cC := hC.getO cB
    obtain ⟨hun0, hun1⟩ := hun
    repeat' first | (with_reducible (show W _ _ _ _ _); with_reducible refine go2 ?_) | (with_reducible (show W _ _ _ _ _); with_reducible refine sg2 ?_ ?_ <;> intro _) | (with_reducible (show W _ _ _ _ _); with_reducible refine sc2 ?_ ?_ <;> intro _) | (with_reducible (show W _ _ (.code (.region 5 _ true) :: _) _ _); with_reducible refine W_draw [(0, []), (1, []), (2, []), (3, []), (4, []), (5, []), (6, []), (7, []), (8, []), (9, []), (10, []), (11, []), (12, [])] [] (by kernel_rfl) ?_) | (with_reducible (show W _ _ (.code (.region 8 _ true) :: _) _ _); with_reducible refine W_draw [(0, []), (1, []), (3, []), (4, []), (6, []), (2, [3, 4, 6]), (5, [6]), (7, []), (8, []), (9, []), (10, [])] [3, 4, 6] (by kernel_rfl) ?_)
    (with_reducible (show CallK _ _ _ _ _ _ _ _ _ _ _)); with_reducible refine cx2 (int_num units (by omega) _) ?_
    rintro w1 C1 ⟨hC1, s1, l1, e1, rfl, hN1⟩
    repeat' first | (with_reducible (show W _ _ _ _ _); with_reducible refine go2 ?_) | (with_reducible (show W _ _ _ _ _); with_reducible refine sg2 ?_ ?_ <;> intro _) | (with_reducible (show W _ _ (.code (.region 5 _ true) :: _) _ _); with_reducible refine W_draw [(0, []), (1, []), (2, []), (3, []), (4, []), (5, []), (6, []), (7, []), (8, []), (9, []), (10, []), (11, []), (12, [])] [] (by kernel_rfl) ?_) | (with_reducible (show W _ _ (.code (.region 8 _ true) :: _) _ _); with_reducible refine W_draw [(0, []), (1, []), (3, []), (4, []), (6, []), (2, [3, 4, 6]), (5, [6]), (7, []), (8, []), (9, []), (10, [])] [3, 4, 6] (by kernel_rfl) ?_)
    (with_reducible (show CallK _ _ _ _ _ _ _ _ _ _ _)); with_reducible refine cx2 (two_num (-53) (by decide) (K := 64) (by decide) _) ?_
    rintro w2 C2 ⟨hC2, s2, l2, e2, rfl, hN2⟩
    repeat' first | (with_reducible (show W _ _ _ _ _); with_reducible refine go2 ?_) | (with_reducible (show W _ _ _ _ _); with_reducible refine sg2 ?_ ?_ <;> intro _) | (with_reducible (show W _ _ (.code (.region 5 _ true) :: _) _ _); with_reducible refine W_draw [(0, []), (1, []), (2, []), (3, []), (4, []), (5, []), (6, []), (7, []), (8, []), (9, []), (10, []), (11, []), (12, [])] [] (by kernel_rfl) ?_) | (with_reducible (show W _ _ (.code (.region 8 _ true) :: _) _ _); with_reducible refine W_draw [(0, []), (1, []), (3, []), (4, []), (6, []), (2, [3, 4, 6]), (5, [6]), (7, []), (8, []), (9, []), (10, [])] [3, 4, 6] (by kernel_rfl) ?_)
    (with_reducible (show CallK _ _ _ _ _ _ _ _ _ _ _)); with_reducible refine cx2 (mul_num (hN1.old hC2) hN2 (by decide) (by decide)) ?_
    rintro w3 C3 ⟨hC3, s3, l3, e3, rfl, hN3⟩
    have ho3 := hN3.one
    obtain ⟨E, hE⟩ : ∃ E, C3 ++ [some ⟨[bl s3, l3, i64 e3], true⟩] = E := ⟨_, rfl⟩
    have hOE : Old C3 E := by rw [← hE]; exact (Old.refl _).app _
    have cE : hget E C3.length = some ⟨[bl s3, l3, i64 e3], true⟩ := by rw [← hE]; exact hget_new'
    have hCE : Old C E := hC1.trans (hC2.trans (hC3.trans hOE))
    have cE7 := hCE.getO cC
    have hHE : Old H E := hHC.trans hCE
    have hdot := dot13 ((hL'.any).old hCE) ((hL'.any).old hCE) (Nat.le_refl _) (by rw [difR_len]; omega) (by omega) (by omega)
    rw [difR_len] at hdot
    repeat' first | (with_reducible (show W _ _ _ _ _); with_reducible refine go2 ?_) | (with_reducible (show W _ _ _ _ _); with_reducible refine sg2 ?_ ?_ <;> intro _) | (with_reducible (show W _ _ (.code (.region 5 _ true) :: _) _ _); with_reducible refine W_draw [(0, []), (1, []), (2, []), (3, []), (4, []), (5, []), (6, []), (7, []), (8, []), (9, []), (10, []), (11, []), (12, [])] [] (by kernel_rfl) ?_) | (with_reducible (show W _ _ (.code (.region 8 _ true) :: _) _ _); with_reducible refine W_draw [(0, []), (1, []), (3, []), (4, []), (6, []), (2, [3, 4, 6]), (5, [6]), (7, []), (8, []), (9, []), (10, [])] [3, 4, 6] (by kernel_rfl) ?_)
    (with_reducible (show CallK _ _ _ _ _ _ _ _ _ _ _)); with_reducible refine cxh hdot ?_
    rintro w4 C4 ⟨hC4, s4, l4, e4, rfl, hN4⟩
    have c47 := hC4.getO cE7
    have c4E := hC4.getO cE
    refine ⟨by simp [held_cons, held_nil', sem_load, loadV_ptr, cellsAt_eq, ty_34, c47, c4E], ?_⟩
    repeat' first | (with_reducible (show W _ _ _ _ _); with_reducible refine go2 ?_) | (with_reducible (show W _ _ _ _ _); with_reducible refine sg2 ?_ ?_ <;> intro _) | (with_reducible (show W _ _ (.code (.region 5 _ true) :: _) _ _); with_reducible refine W_draw [(0, []), (1, []), (2, []), (3, []), (4, []), (5, []), (6, []), (7, []), (8, []), (9, []), (10, []), (11, []), (12, [])] [] (by kernel_rfl) ?_) | (with_reducible (show W _ _ (.code (.region 8 _ true) :: _) _ _); with_reducible refine W_draw [(0, []), (1, []), (3, []), (4, []), (6, []), (2, [3, 4, 6]), (5, [6]), (7, []), (8, []), (9, []), (10, [])] [3, 4, 6] (by kernel_rfl) ?_)
    (with_reducible (show CallK _ _ _ _ _ _ _ _ _ _ _)); with_reducible refine cxh (mul_num (hq.old (hHE.trans hC4)) (hN3.old (hOE.trans hC4)) (by omega) (by omega)) ?_
    rintro w5 C5 ⟨hC5, s5, l5, e5, rfl, hN5⟩
    have c5E := hC5.getO c4E
    refine ⟨by simp [held_cons, held_nil', sem_load, loadV_ptr, cellsAt_eq, ty_34, c5E], ?_⟩
    repeat' first | (with_reducible (show W _ _ _ _ _); with_reducible refine go2 ?_) | (with_reducible (show W _ _ _ _ _); with_reducible refine sg2 ?_ ?_ <;> intro _) | (with_reducible (show W _ _ (.code (.region 5 _ true) :: _) _ _); with_reducible refine W_draw [(0, []), (1, []), (2, []), (3, []), (4, []), (5, []), (6, []), (7, []), (8, []), (9, []), (10, []), (11, []), (12, [])] [] (by kernel_rfl) ?_) | (with_reducible (show W _ _ (.code (.region 8 _ true) :: _) _ _); with_reducible refine W_draw [(0, []), (1, []), (3, []), (4, []), (6, []), (2, [3, 4, 6]), (5, [6]), (7, []), (8, []), (9, []), (10, [])] [3, 4, 6] (by kernel_rfl) ?_)
    (with_reducible (show CallK _ _ _ _ _ _ _ _ _ _ _)); with_reducible refine cx2 (mul_num hN5 (hN3.old (hOE.trans (hC4.trans hC5))) (by omega) (by omega)) ?_
    rintro w6 C6 ⟨hC6, s6, l6, e6, rfl, hN6⟩
    obtain ⟨J, rfl⟩ := Old.jk (hHE.trans (hC4.trans (hC5.trans hC6)))
    have hcmp := cmp_num ((hN4.old (hC5.trans hC6)).mono (show K + 1 + (K + 1) + 1000 ≤ 2 * K + L + 5000 by omega)) (hN6.mono (show L + (64 + 64) + (64 + 64) ≤ 2 * K + L + 5000 by omega)) (by omega)
    obtain ⟨z, hz⟩ : ∃ z, dotR (difR a b n) (difR a b n) n - q * ((units : Rat) * pw (-53)) * ((units : Rat) * pw (-53)) = z := ⟨_, rfl⟩
    rw [hz] at hcmp
    have hres : nearB a b units q = decide (sgi z ≤ 0) := by
      unfold nearB
      congr 1
      unfold nearR
      rw [hne, ← hz]
      refine propext (Iff.trans ?_ sgi_le.symm)
      constructor <;> intro h <;> grind
    rw [hres]
    clear hres hz
    repeat' first | (with_reducible (show W _ _ _ _ _); with_reducible refine go2 ?_) | (with_reducible (show W _ _ _ _ _); with_reducible refine sg2 ?_ ?_ <;> intro _) | (with_reducible (show W _ _ _ _ _); with_reducible refine sc2 ?_ ?_ <;> intro _) | (with_reducible (show CallK _ _ _ _ _ _ _ _ _ _ _); with_reducible refine ce2 (hcmp) ?_) | (with_reducible (show W _ _ (.code (.region 5 _ true) :: _) _ _); with_reducible refine W_draw [(0, []), (1, []), (2, []), (3, []), (4, []), (5, []), (6, []), (7, []), (8, []), (9, []), (10, []), (11, []), (12, [])] [] (by kernel_rfl) ?_) | (with_reducible (show W _ _ (.code (.region 8 _ true) :: _) _ _); with_reducible refine W_draw [(0, []), (1, []), (3, []), (4, []), (6, []), (2, [3, 4, 6]), (5, [6]), (7, []), (8, []), (9, []), (10, [])] [3, 4, 6] (by kernel_rfl) ?_)
    all_goals trivial
end Go.Proofs.YtcikcinkjbbnhaaDoor.M
