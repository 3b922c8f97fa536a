/- The law HouseTwice, in the small machine. -/
import Derived.Test.YtcikcinkjbbnhaaDoorZ5
import Derived.Test.YtcikcinkjbbnhaaDoorC24
import Derived.Test.YtcikcinkjbbnhaaDoorC49
import Derived.Test.YtcikcinkjbbnhaaDoorJ
set_option linter.unusedSimpArgs false
set_option linter.unusedVariables false
set_option pp.deepTerms false
set_option pp.maxSteps 1500
set_option maxRecDepth 10000
set_option maxHeartbeats 4000000
namespace Go.Proofs.YtcikcinkjbbnhaaDoor.M
open Go Go.Proofs

theorem cap_of {μ : Mu} {u : MV} {k : IntKind} {w : World} {a : Option Addr} {len cap : Nat} {zs : List Int} (hc : conc μ u = .slice a len cap) (hw : IsRow k w a len cap zs) : ∀ p o n c z, u = .slice p o n c z → n ≤ c := by
  rintro p o n c z rfl
  simp only [conc, Value.slice.injEq] at hc
  obtain ⟨_, rfl, rfl⟩ := hc
  rcases hw with ⟨_, h1, h2, _⟩ | ⟨_, _, h, _⟩ <;> omega
/-- The list's number at a place: a list's again and again, or one. -/
def pickY (ys : List Int) (i : Nat) : Int := if 0 < ys.length then ys.getD (i % ys.length) 0 else 4607182418800017408
def pickL (ys : List Int) (k : Nat) : List Rat := (List.range k).map fun i => vx (pickY ys i)
theorem pickL_len (ys : List Int) (k : Nat) : (pickL ys k).length = k := by simp [pickL]
theorem pickL_succ (ys : List Int) (k : Nat) : pickL ys (k + 1) = pickL ys k ++ [vx (pickY ys k)] := by simp [pickL, List.range_succ]
theorem htwice {v y : MV} {xs ys : List Int} {H : MH} (hv : Sl H v xs) (hI : InD xs) (hcap : ∀ p o n c z, v = .slice p o n c z → n ≤ c) (hy : Sl H y ys) (hJ : InD ys) :
    Spec Tryd.prog 3 [v, y] H fun u H' => u = bl true ∧ H' = H := by
  have hlv := len22 hv
  have hly := len22 hy
  refine Spec.scalar (enterS Tryd.func3 [.tmp 4] ?_)
  by_cases hl1 : 12 < (xs.length : Int)
  · repeat' first | (with_reducible (show W _ _ _ _ _); with_reducible refine go2 ?_) | (with_reducible (show W _ _ _ _ _); with_reducible refine sg2 ?_ ?_ <;> intro _) | (with_reducible (show W _ _ _ _ _); with_reducible refine sc2 ?_ ?_ <;> intro _) | (with_reducible (show CallK _ _ _ _ _ _ _ _ _ _ _); with_reducible refine ce2 (head13_spec _) ?_) | (with_reducible (show W _ _ (.code (.region 17 _ true) :: _) _ _); with_reducible refine W_draw [(0, []), (1, []), (2, []), (5, []), (6, []), (7, []), (8, []), (9, []), (10, []), (11, []), (3, [0]), (4, []), (12, []), (13, []), (14, [])] [0] (by kernel_rfl) ?_)
    all_goals trivial
  by_cases hl2 : 100 < (ys.length : Int)
  · repeat' first | (with_reducible (show W _ _ _ _ _); with_reducible refine go2 ?_) | (with_reducible (show W _ _ _ _ _); with_reducible refine sg2 ?_ ?_ <;> intro _) | (with_reducible (show W _ _ _ _ _); with_reducible refine sc2 ?_ ?_ <;> intro _) | (with_reducible (show CallK _ _ _ _ _ _ _ _ _ _ _); with_reducible refine ce2 (head13_spec _) ?_) | (with_reducible (show W _ _ (.code (.region 17 _ true) :: _) _ _); with_reducible refine W_draw [(0, []), (1, []), (2, []), (5, []), (6, []), (7, []), (8, []), (9, []), (10, []), (11, []), (3, [0]), (4, []), (12, []), (13, []), (14, [])] [0] (by kernel_rfl) ?_)
    all_goals trivial
  have hlen12 : xs.length ≤ 12 := by omega
  by_cases hbad : xs.length = 0 ∨ finL xs = false
  · repeat' first | (with_reducible (show W _ _ _ _ _); with_reducible refine go2 ?_) | (with_reducible (show W _ _ _ _ _); with_reducible refine sg2 ?_ ?_ <;> intro _) | (with_reducible (show W _ _ _ _ _); with_reducible refine sc2 ?_ ?_ <;> intro _) | (with_reducible (show CallK _ _ _ _ _ _ _ _ _ _ _); with_reducible refine ce2 (head13_spec _) ?_) | (with_reducible (show W _ _ (.code (.region 17 _ true) :: _) _ _); with_reducible refine W_draw [(0, []), (1, []), (2, []), (5, []), (6, []), (7, []), (8, []), (9, []), (10, []), (11, []), (3, [0]), (4, []), (12, []), (13, []), (14, [])] [0] (by kernel_rfl) ?_) | ((with_reducible (show CallK _ _ _ _ _ _ _ _ _ _ _); with_reducible refine cx2 (hgen_err hv (by omega) hbad) ?_; rintro u' H' ⟨⟨b, e⟩, he, rfl, rfl⟩; have he' : (e = 0) = False := eq_false he))
    all_goals trivial
  have hf : finL xs = true := by
    cases hh : finL xs
    · exact absurd (.inr hh) hbad
    · rfl
  have hy0 : 0 < xs.length := by
    rcases Nat.eq_zero_or_pos xs.length with h | h
    · exact absurd (.inl h) hbad
    · exact h
  clear hbad
  rcases hv with ⟨rfl, _⟩ | ⟨p, o, c, ob, rfl, hp, hcell⟩
  · simp at hy0
  have hc := hcap _ _ _ _ _ rfl
  have hlaw : Gn xs.length (genV xs) (genT xs) ∨ vx (genT xs) = 0 := by
    by_cases hB : genB xs = true
    · right
      have : genT xs = 0 := by unfold genT; rw [if_pos hB]
      rw [this, vx_fn Fn.zero, val_z]
    · left
      exact gen_near (fun x hx => ⟨hI x hx, List.all_eq_true.1 hf x hx⟩) (by omega) (by simpa using hB)
  have hVl : (genV xs).length = xs.length := genV_len hy0
  have hVI := genV_in xs
  have hTI := genT_in xs
  have hgen := hgen_spec hp hcell hc ⟨hy0, by omega⟩ hf hI
  generalize genV xs = V at hlaw hVl hVI hgen
  generalize genT xs = tau at hlaw hTI hgen
  generalize genK xs = bb at hgen
  obtain ⟨n, hn⟩ : ∃ n, xs.length = n := ⟨_, rfl⟩
  rw [hn] at hl1 hlen12 hy0 hlaw hVl hgen hcell hlv hc ⊢
  repeat' first | (with_reducible (show W _ _ _ _ _); with_reducible refine go2 ?_) | (with_reducible (show W _ _ _ _ _); with_reducible refine sg2 ?_ ?_ <;> intro _) | (with_reducible (show W _ _ _ _ _); with_reducible refine sc2 ?_ ?_ <;> intro _) | (with_reducible (show CallK _ _ _ _ _ _ _ _ _ _ _); with_reducible refine ce2 (head13_spec _) ?_) | (with_reducible (show W _ _ (.code (.region 17 _ true) :: _) _ _); with_reducible refine W_draw [(0, []), (1, []), (2, []), (5, []), (6, []), (7, []), (8, []), (9, []), (10, []), (11, []), (3, [0]), (4, []), (12, []), (13, []), (14, [])] [0] (by kernel_rfl) ?_)
  clear hl1
  (with_reducible (show CallK _ _ _ _ _ _ _ _ _ _ _)); with_reducible refine cx2 hgen ?_
  rintro u' H' ⟨q, hq, rfl, rfl⟩
  clear hgen
  have hb0 := bsV_num0
  have hb1 := bsV_num
  have hty : (ty Tryd.prog 31).k = .slice 3 40 (some [.bool false, .slice none 0 0, .int .i64 0]) false := by rw [ty_31]
  repeat' first | (with_reducible (show W _ _ _ _ _); with_reducible refine go2 ?_) | (with_reducible (show W _ _ _ _ _); with_reducible refine sg2 ?_ ?_ <;> intro _) | (with_reducible (show W _ _ (.code (.region 17 _ true) :: _) _ _); with_reducible refine W_draw [(0, []), (1, []), (2, []), (5, []), (6, []), (7, []), (8, []), (9, []), (10, []), (11, []), (3, [0]), (4, []), (12, []), (13, []), (14, [])] [0] (by kernel_rfl) ?_)
  obtain ⟨B, hB⟩ : ∃ B, H ++ [some ⟨V.map u64, true⟩, some ⟨[.slice H.length 0 n q 1, u64 tau], true⟩] = B := ⟨_, rfl⟩
  have hBl : B.length = H.length + 2 := by rw [← hB]; simp
  have hOB : Old H B := by rw [← hB]; exact (Old.refl _).app _
  have cB : hget B (H.length + 1) = some ⟨[.slice H.length 0 n q 1, u64 tau], true⟩ := by rw [← hB]; exact hget_newL rfl
  have cV : hget B H.length = some ⟨V.map u64, true⟩ := by rw [← hB]; exact hget_new'
  refine W_for (fun j ρ C => ∃ k : Nat, k + j = n ∧ Nl B C (ρ 9) (pickL ys k) 1100 ∧ Old B C ∧ ρ 0 = .slice p o n c 1 ∧ ρ 1 = y ∧ ρ 5 = .ptr (H.length + 1) 0 ∧ ρ 33 = i64 (n : Int) ∧ ρ 34 = i64 (k : Int)) n ?_ ?_
  · refine ⟨0, by omega, ?_, ?_, rfl, rfl, rfl, rfl, rfl⟩
    · show Nl B _ (.slice _ 0 0 _ 3) [] _
      refine Nl.nil _ (p := H.length + 2) ?_ (by omega)
      exact hget_newL rfl
    · rw [← hB]
      refine ⟨by simp, fun q hq => ?_⟩
      rw [show ∀ a b c : Option MO, H ++ [a, b, c] = (H ++ [a, b]) ++ [c] from fun a b c => by simp, List.getElem?_append_left hq]
  rintro j ρ C ⟨k, hk, hL, hC, h0, h1, h5, h33, h34⟩
  obtain ⟨w, hw⟩ : ∃ w, ρ 9 = w := ⟨_, rfl⟩
  rw [hw] at hL
  have hHC := hOB.trans hC
  have f3 : ∀ m : Nat, (0 ≤ (m : Int)) = True := fun m => eq_true (by omega)
  have f5 : ∀ m : Nat, (m : Int).toNat = m := fun m => Int.toNat_natCast m
  have f6 : ∀ m : Nat, m * 1 = m := Nat.mul_one
  by_cases hlt : (k : Int) < n
  · have e1 : IntKind.i64.wrap ((k : Int) + 1) = ((k + 1 : Nat) : Int) := by rw [wrap_i64 (by omega)]; omega
    have hstep := pickL_succ ys k
    replace hstep : Hid2 _ := hstep
    repeat' first | (with_reducible (show W _ _ _ _ _); with_reducible refine go2 ?_) | (with_reducible (show W _ _ _ _ _); with_reducible refine sg2 ?_ ?_ <;> intro _) | (with_reducible (show W _ _ (.code (.region 17 _ true) :: _) _ _); with_reducible refine W_draw [(0, []), (1, []), (2, []), (5, []), (6, []), (7, []), (8, []), (9, []), (10, []), (11, []), (3, [0]), (4, []), (12, []), (13, []), (14, [])] [0] (by kernel_rfl) ?_)
    refine W_cut (fun ρ' C' => ρ' 11 = u64 (pickY ys k) ∧ C' = C ∧ ρ' 9 = w ∧ ρ' 0 = .slice p o n c 1 ∧ ρ' 1 = y ∧ ρ' 5 = .ptr (H.length + 1) 0 ∧ ρ' 33 = i64 (n : Int) ∧ ρ' 34 = i64 (k : Int)) ?_ ?_
    · by_cases hy1 : 0 < (ys.length : Int)
      · rcases hy with ⟨rfl, _⟩ | ⟨p', o', c', ob', rfl, hp', hcell'⟩
        · exfalso; simp at hy1
        have g1 : ((ys.length : Int) = 0) = False := eq_false (by omega)
        have g2 : (k : Int).tmod ys.length = ((k % ys.length : Nat) : Int) := (Int.ofNat_tmod k ys.length).symm
        have g3 : IntKind.i64.wrap ((k % ys.length : Nat) : Int) = ((k % ys.length : Nat) : Int) := wrap_i64 (by have := Nat.mod_lt k (show 0 < ys.length by omega); omega)
        have g4 : (((k % ys.length : Nat) : Int) < (ys.length : Int)) = True := eq_true (by have := Nat.mod_lt k (show 0 < ys.length by omega); omega)
        have g5 := hcell' (k % ys.length) (Nat.mod_lt k (by omega))
        have g6 := hHC.getO hp'
        have g7 : pickY ys k = ys.getD (k % ys.length) 0 := by rw [pickY, if_pos (by omega)]
        repeat' first | (with_reducible (show W _ _ _ _ _); with_reducible refine go2 ?_) | (with_reducible (show W _ _ _ _ _); with_reducible refine sg2 ?_ ?_ <;> intro _) | (with_reducible (show W _ _ _ _ _); with_reducible refine sc2 ?_ ?_ <;> intro _) | (with_reducible (show W _ _ (.code (.region 17 _ true) :: _) _ _); with_reducible refine W_draw [(0, []), (1, []), (2, []), (5, []), (6, []), (7, []), (8, []), (9, []), (10, []), (11, []), (3, [0]), (4, []), (12, []), (13, []), (14, [])] [0] (by kernel_rfl) ?_)
        all_goals first | trivial | trace_state
      · have g7 : pickY ys k = 4607182418800017408 := by rw [pickY, if_neg (by omega)]
        repeat' first | (with_reducible (show W _ _ _ _ _); with_reducible refine go2 ?_) | (with_reducible (show W _ _ _ _ _); with_reducible refine sg2 ?_ ?_ <;> intro _) | (with_reducible (show W _ _ _ _ _); with_reducible refine sc2 ?_ ?_ <;> intro _) | (with_reducible (show W _ _ (.code (.region 17 _ true) :: _) _ _); with_reducible refine W_draw [(0, []), (1, []), (2, []), (5, []), (6, []), (7, []), (8, []), (9, []), (10, []), (11, []), (3, [0]), (4, []), (12, []), (13, []), (14, [])] [0] (by kernel_rfl) ?_)
        all_goals first | trivial | trace_state
    clear h0 h1 h5 h33 h34
    rintro ρ' C' ⟨h11, rfl, h9, h0, h1, h5, h33, h34⟩
    have hin : InU (pickY ys k) := by
      unfold pickY
      split
      · exact getD_in hJ _
      · exact ⟨by decide, by decide⟩
    repeat' first | (with_reducible (show W _ _ _ _ _); with_reducible refine go2 ?_) | (with_reducible (show W _ _ _ _ _); with_reducible refine sg2 ?_ ?_ <;> intro _) | (with_reducible (show W _ _ (.code (.region 17 _ true) :: _) _ _); with_reducible refine W_draw [(0, []), (1, []), (2, []), (5, []), (6, []), (7, []), (8, []), (9, []), (10, []), (11, []), (3, [0]), (4, []), (12, []), (13, []), (14, [])] [0] (by kernel_rfl) ?_)
    (with_reducible (show CallK _ _ _ _ _ _ _ _ _ _ _)); with_reducible refine cx2 (exact13 hin _) ?_
    rintro w2 C2 ⟨hC2, s, sl, e, rfl, hN⟩
    have ho := hN.one
    repeat' first | (with_reducible (show W _ _ _ _ _); with_reducible refine go2 ?_) | (with_reducible (show W _ _ _ _ _); with_reducible refine sg2 ?_ ?_ <;> intro _) | (with_reducible (show W _ _ (.code (.region 17 _ true) :: _) _ _); with_reducible refine W_draw [(0, []), (1, []), (2, []), (5, []), (6, []), (7, []), (8, []), (9, []), (10, []), (11, []), (3, [0]), (4, []), (12, []), (13, []), (14, [])] [0] (by kernel_rfl) ?_)
    (with_reducible (show AppK _ _ _ _ _ _ _ _ _ _)); with_reducible refine app_nl (hC.trans hC2) (hL.old hC2) (by rw [pickL_len]; omega) hty ⟨by decide, rfl, by decide⟩ hN rfl rfl rfl ?_
    intro v' C3 hC3 hL3 _
    refine ⟨held_none _ _ _, ?_⟩
    rw [← show pickL ys (k + 1) = _ from hstep] at hL3
    repeat' first | (with_reducible (show W _ _ _ _ _); with_reducible refine go2 ?_) | (with_reducible (show W _ _ _ _ _); with_reducible refine sg2 ?_ ?_ <;> intro _) | (with_reducible (show W _ _ _ _ _); with_reducible refine sc2 ?_ ?_ <;> intro _) | (with_reducible (show W _ _ (.code (.region 17 _ true) :: _) _ _); with_reducible refine W_draw [(0, []), (1, []), (2, []), (5, []), (6, []), (7, []), (8, []), (9, []), (10, []), (11, []), (3, [0]), (4, []), (12, []), (13, []), (14, [])] [0] (by kernel_rfl) ?_)
    all_goals first
      | exact ⟨j - 1, by omega, k + 1, by omega, hL3, hC3, rfl⟩
      | exact ⟨j - 1, by omega, k + 1, by omega, hL3, rfl⟩
      | trace_state
  · have hkn : k = n := by omega
    rw [hkn] at hL
    clear hkn hk
    obtain ⟨l, hl⟩ : ∃ l, pickL ys n = l := ⟨_, rfl⟩
    have hll : l.length = n := by rw [← hl, pickL_len]
    rw [hl] at hL
    clear hl
    have hnear := twice_law hVl (by omega) l hll hlaw
    have cB' := hC.getO cB
    have cV' := hC.getO cV
    have hSl : ∀ C2, Old C C2 → Sl C2 (.slice H.length 0 n q 1) V := fun C2 h2 => .inr ⟨H.length, 0, q, _, by rw [hVl], h2.getO cV', fun i hi => by simp [List.getD_eq_getElem?_getD, hi]⟩
    have hL1 := hL.any
    have e4 : IntKind.i64.wrap ((n : Int) + 4) = (n : Int) + 4 := wrap_i64 (by omega)
    have e5 : IntKind.i64.wrap (200 * ((n : Int) + 4)) = 200 * ((n : Int) + 4) := wrap_i64 (by omega)
    repeat' first | (with_reducible (show W _ _ _ _ _); with_reducible refine go2 ?_) | (with_reducible (show W _ _ _ _ _); with_reducible refine sg2 ?_ ?_ <;> intro _) | (with_reducible (show W _ _ _ _ _); with_reducible refine sc2 ?_ ?_ <;> intro _) | (with_reducible (show W _ _ (.code (.region 17 _ true) :: _) _ _); with_reducible refine W_draw [(0, []), (1, []), (2, []), (5, []), (6, []), (7, []), (8, []), (9, []), (10, []), (11, []), (3, [0]), (4, []), (12, []), (13, []), (14, [])] [0] (by kernel_rfl) ?_)
    have ht1 := turned13 (hSl C (Old.refl _)) hVI hTI hL1 (by rw [hll, hVl]) (by omega) (by decide)
    rw [hVl] at ht1
    (with_reducible (show CallK _ _ _ _ _ _ _ _ _ _ _)); with_reducible refine cxh ht1 ?_
    rintro w4 C4 ⟨hC4, hL4⟩
    have cB4 := hC4.getO cB'
    refine ⟨by simp [held_cons, held_nil', sem_load, loadV_ptr, cellsAt_eq, ty_26, cB4], ?_⟩
    have ht2 := turned13 (hSl C4 hC4) hVI hTI hL4.any (by rw [turnR_len, hVl]) (by omega) (by decide)
    rw [hVl] at ht2
    repeat' first | (with_reducible (show W _ _ _ _ _); with_reducible refine go2 ?_) | (with_reducible (show W _ _ _ _ _); with_reducible refine sg2 ?_ ?_ <;> intro _) | (with_reducible (show W _ _ (.code (.region 17 _ true) :: _) _ _); with_reducible refine W_draw [(0, []), (1, []), (2, []), (5, []), (6, []), (7, []), (8, []), (9, []), (10, []), (11, []), (3, [0]), (4, []), (12, []), (13, []), (14, [])] [0] (by kernel_rfl) ?_)
    (with_reducible (show CallK _ _ _ _ _ _ _ _ _ _ _)); with_reducible refine cx2 ht2 ?_
    rintro w5 C5 ⟨hC5, hL5⟩
    have hLl := (hL1.old hC4).old hC5
    repeat' first | (with_reducible (show W _ _ _ _ _); with_reducible refine go2 ?_) | (with_reducible (show W _ _ _ _ _); with_reducible refine sg2 ?_ ?_ <;> intro _) | (with_reducible (show W _ _ (.code (.region 17 _ true) :: _) _ _); with_reducible refine W_draw [(0, []), (1, []), (2, []), (5, []), (6, []), (7, []), (8, []), (9, []), (10, []), (11, []), (3, [0]), (4, []), (12, []), (13, []), (14, [])] [0] (by kernel_rfl) ?_)
    (with_reducible (show CallK _ _ _ _ _ _ _ _ _ _ _)); with_reducible refine cx2 (dot13 hLl hLl (Nat.le_refl _) (by omega) (by decide) (by decide)) ?_
    rintro w6 C6 ⟨hC6, s6, l6, e6, rfl, hN6⟩
    rw [hll] at hN6
    obtain ⟨J, rfl⟩ := Old.jk (hHC.trans (hC4.trans (hC5.trans hC6)))
    have hne := near13 ((hL5.any).old hC6) ((hLl.old hC6).mono (show (1100 : Int) ≤ 1100 + 5000 + 5000 by decide)) (by rw [turnR_len, hll]; exact Nat.le_refl _) (by rw [turnR_len]; omega) (units := 200 * ((n : Int) + 4)) (by omega) hN6 (by decide) (by decide)
    have hres : nearB (turnR V tau (turnR V tau l n) n) l (200 * ((n : Int) + 4)) (dotR l l n) = true := by
      simp [nearB, hnear]
    rw [hres] at hne
    repeat' first | (with_reducible (show W _ _ _ _ _); with_reducible refine go2 ?_) | (with_reducible (show W _ _ _ _ _); with_reducible refine sg2 ?_ ?_ <;> intro _) | (with_reducible (show W _ _ _ _ _); with_reducible refine sc2 ?_ ?_ <;> intro _) | (with_reducible (show CallK _ _ _ _ _ _ _ _ _ _ _); with_reducible refine ce2 (hne) ?_) | (with_reducible (show W _ _ (.code (.region 17 _ true) :: _) _ _); with_reducible refine W_draw [(0, []), (1, []), (2, []), (5, []), (6, []), (7, []), (8, []), (9, []), (10, []), (11, []), (3, [0]), (4, []), (12, []), (13, []), (14, [])] [0] (by kernel_rfl) ?_)
    all_goals trivial
end Go.Proofs.YtcikcinkjbbnhaaDoor.M
