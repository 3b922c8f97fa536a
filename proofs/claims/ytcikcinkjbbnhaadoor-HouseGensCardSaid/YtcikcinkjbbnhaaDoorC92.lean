/- The law HouseGens, in the small machine. -/
import Derived.Test.YtcikcinkjbbnhaaDoorC91
import Derived.Test.YtcikcinkjbbnhaaDoorC24
import Derived.Test.YtcikcinkjbbnhaaDoorJ
set_option linter.unusedSimpArgs false
set_option linter.unusedVariables false
set_option pp.deepTerms false
set_option pp.maxSteps 1500
set_option maxRecDepth 10000
set_option maxHeartbeats 4000000
namespace Go.Proofs.YtcikcinkjbbnhaaDoor.M
open Go Go.Proofs

theorem cap_of {μ : Mu} {u : MV} {k : IntKind} {w : World} {a : Option Addr} {len cap : Nat} {zs : List Int} (hc : conc μ u = .slice a len cap) (hw : IsRow k w a len cap zs) : ∀ p o n c z, u = .slice p o n c z → n ≤ c := by
  rintro p o n c z rfl
  simp only [conc, Value.slice.injEq] at hc
  obtain ⟨_, rfl, rfl⟩ := hc
  rcases hw with ⟨_, h1, h2, _⟩ | ⟨_, _, h, _⟩ <;> omega
theorem sgi_ge {x : Rat} (h : 0 ≤ x) : 0 ≤ sgi x := by
  unfold sgi
  split
  · omega
  · rw [if_neg (by grind)]; omega
theorem genV_one (xs : List Int) (h : 0 < xs.length) : (genV xs).getD 0 0 = 4607182418800017408 := by
  unfold genV
  split
  · obtain ⟨n, hn⟩ : ∃ n, xs.length = n + 1 := ⟨xs.length - 1, by omega⟩
    rw [hn]; rfl
  · rfl
theorem Sl.tl {H : MH} {p n c : Nat} {xs : List Int} (h : Sl H (.slice p 0 n c 1) xs) (hn : xs.length = n) (h0 : 0 < n) (hc : n ≤ c) : Sl H (.slice p (if c = 1 then 0 else 1) (n - 1) (c - 1) 1) xs.tail := by
  rcases h with ⟨_, a, h⟩ | ⟨p', o, c', ob, h, hp, hcell⟩
  · cases h
  · cases h
    refine .inr ⟨p, _, c - 1, ob, by rw [List.length_tail], hp, fun i hi => ?_⟩
    rw [List.length_tail] at hi
    rw [if_neg (by omega), Nat.add_comm 1 i]
    have := hcell (i + 1) (by omega)
    rw [Nat.zero_add] at this
    rw [this]
    simp [List.getD_eq_getElem?_getD]
theorem genK_fl {xs : List Int} (hx : ∀ x ∈ xs, Fn x) (hl : xs.length ≤ 1000) : (genK xs).2 = 0 ∨ (genK xs).2 = 1 ∨ (genK xs).2 = 3 ∨ (genK xs).2 = 5 ∨ (genK xs).2 = 7 := by
  by_cases hB : genB xs = true
  · rw [genK_triv hB]; exact .inl rfl
  · have hB' : genB xs = false := by simpa using hB
    obtain ⟨n, σ, a0, nu, d, D, M, g⟩ := gen_full hx hl hB'
    have hp : (powerM xs).2 = true := by
      unfold genB at hB'
      cases h : (powerM xs).2
      · rw [h] at hB'; simp at hB'
      · rfl
    have hpe : -1074 ≤ (powerM xs).1 ∧ (powerM xs).1 ≤ 1023 := by
      rcases power_val hx with ⟨h, _⟩ | ⟨_, _, _, h⟩
      · rw [hp] at h; cases h
      · exact h
    obtain ⟨ρ, hρ⟩ := scale_val (n := (powerM xs).1) g.fb.inu g.fb.fin (by omega)
    unfold genK
    rw [if_neg hB]
    exact hρ.fl
theorem Nl.one {H C : MH} {p c : Nat} {s sl e q K} (h : hget C p = some ⟨[bl s, sl, i64 e], true⟩) (hp : H.length ≤ p) (hc : 1 ≤ c) (hN : Num C s sl e q K) : Nl H C (.slice p 0 1 c 3) [q] K := ⟨p, c, _, rfl, hc, h, rfl, hN.now, hp, fun i hi => by
  have : i = 0 := by simpa using hi
  subst this
  exact ⟨s, sl, e, rfl, hN⟩⟩
theorem hgens {v : MV} {xs : List Int} {H : MH} (hv : Sl H v xs) (hI : InD xs) (hcap : ∀ p o n c z, v = .slice p o n c z → n ≤ c) (hof : ∀ p o n c z, v = .slice p o n c z → o = 0) :
    Spec Tryd.prog 4 [v] H fun u H' => u = bl true ∧ H' = H := by
  have hlv := len22 hv
  refine Spec.scalar (enterS Tryd.func4 [.tmp 2] ?_)
  by_cases hl1 : 20 < (xs.length : Int)
  · repeat' first | (with_reducible (show W _ _ _ _ _); with_reducible refine go2 ?_) | (with_reducible (show W _ _ _ _ _); with_reducible refine sg2 ?_ ?_ <;> intro _) | (with_reducible (show W _ _ _ _ _); with_reducible refine sc2 ?_ ?_ <;> intro _) | (with_reducible (show CallK _ _ _ _ _ _ _ _ _ _ _); with_reducible refine ce2 (head13_spec _) ?_) | (with_reducible (show W _ _ (.code (.region 12 _ true) :: _) _ _); with_reducible refine W_draw [(0, []), (1, []), (2, []), (3, []), (4, []), (5, []), (6, []), (7, []), (8, [])] [] (by kernel_rfl) ?_) | (with_reducible (show W _ _ (.code (.region 36 _ true) :: _) _ _); with_reducible refine W_draw [(0, []), (1, [0]), (2, []), (3, []), (4, []), (5, []), (6, [5]), (7, []), (8, []), (9, [])] [0, 5] (by kernel_rfl) ?_) | (with_reducible (show W _ _ (.code (.region 45 _ true) :: _) _ _); with_reducible refine W_draw [(0, []), (1, []), (2, []), (8, []), (9, []), (10, []), (3, [0]), (4, []), (5, []), (6, []), (7, []), (11, []), (12, []), (13, []), (14, []), (15, [])] [0] (by kernel_rfl) ?_)
    all_goals trivial
  have hlen20 : xs.length ≤ 20 := by omega
  have hu0 : bsV (.slice 1 8 (some [.int .u64 0]) true) 0 [] = some ([], 1) := rfl
  have hty : (ty Tryd.prog 22).k = .slice 1 8 (some [.int .u64 0]) true := by rw [ty_22]
  repeat' first | (with_reducible (show W _ _ _ _ _); with_reducible refine go2 ?_) | (with_reducible (show W _ _ _ _ _); with_reducible refine sg2 ?_ ?_ <;> intro _) | (with_reducible (show W _ _ _ _ _); with_reducible refine sc2 ?_ ?_ <;> intro _) | (with_reducible (show CallK _ _ _ _ _ _ _ _ _ _ _); with_reducible refine ce2 (head13_spec _) ?_) | (with_reducible (show W _ _ (.code (.region 12 _ true) :: _) _ _); with_reducible refine W_draw [(0, []), (1, []), (2, []), (3, []), (4, []), (5, []), (6, []), (7, []), (8, [])] [] (by kernel_rfl) ?_) | (with_reducible (show W _ _ (.code (.region 36 _ true) :: _) _ _); with_reducible refine W_draw [(0, []), (1, [0]), (2, []), (3, []), (4, []), (5, []), (6, [5]), (7, []), (8, []), (9, [])] [0, 5] (by kernel_rfl) ?_) | (with_reducible (show W _ _ (.code (.region 45 _ true) :: _) _ _); with_reducible refine W_draw [(0, []), (1, []), (2, []), (8, []), (9, []), (10, []), (3, [0]), (4, []), (5, []), (6, []), (7, []), (11, []), (12, []), (13, []), (14, []), (15, [])] [0] (by kernel_rfl) ?_)
  (with_reducible (show AppK _ _ _ _ _ _ _ _ _ _)); with_reducible refine app_copy hv hof (by omega) hty ⟨by decide, rfl, by decide⟩ rfl rfl rfl ?_
  intro c0 hc0
  refine ⟨held_none _ _ _, ?_⟩
  obtain ⟨C, hC⟩ : ∃ C, H ++ [none, some ⟨xs.map u64, true⟩] = C := ⟨_, rfl⟩
  have cX : hget C (H.length + 1) = some ⟨xs.map u64, true⟩ := by rw [← hC]; exact hget_newL rfl
  have hOC : Old H C := by rw [← hC]; exact (Old.refl _).app _
  rw [hC]
  clear hC
  have hmS : ∀ B, Old C B → Sl B (.slice (H.length + 1) 0 xs.length c0 1) xs := fun B hB => .inr ⟨H.length + 1, 0, c0, _, rfl, hB.getO cX, fun i hi => by simp [List.getD_eq_getElem?_getD, hi]⟩
  obtain ⟨pm, hpm⟩ : ∃ pm, H.length + 1 = pm := ⟨_, rfl⟩
  rw [hpm] at hmS cX ⊢
  by_cases h0 : xs.length = 0
  · have h1 : xs = [] := List.eq_nil_of_length_eq_zero h0
    subst h1
    have h2 := hgen_nil (hmS C (Old.refl _)) rfl
    simp only [List.length_nil] at h2 hlv hmS ⊢
    replace hlv : lenV Tryd.prog 22 v = some (i64 0) := hlv
    repeat' first | (with_reducible (show W _ _ _ _ _); with_reducible refine go2 ?_) | (with_reducible (show W _ _ _ _ _); with_reducible refine sg2 ?_ ?_ <;> intro _) | (with_reducible (show W _ _ _ _ _); with_reducible refine sc2 ?_ ?_ <;> intro _) | (with_reducible (show CallK _ _ _ _ _ _ _ _ _ _ _); with_reducible refine ce2 (h2) ?_) | (with_reducible (show W _ _ (.code (.region 12 _ true) :: _) _ _); with_reducible refine W_draw [(0, []), (1, []), (2, []), (3, []), (4, []), (5, []), (6, []), (7, []), (8, [])] [] (by kernel_rfl) ?_) | (with_reducible (show W _ _ (.code (.region 36 _ true) :: _) _ _); with_reducible refine W_draw [(0, []), (1, [0]), (2, []), (3, []), (4, []), (5, []), (6, [5]), (7, []), (8, []), (9, [])] [0, 5] (by kernel_rfl) ?_) | (with_reducible (show W _ _ (.code (.region 45 _ true) :: _) _ _); with_reducible refine W_draw [(0, []), (1, []), (2, []), (8, []), (9, []), (10, []), (3, [0]), (4, []), (5, []), (6, []), (7, []), (11, []), (12, []), (13, []), (14, []), (15, [])] [0] (by kernel_rfl) ?_)
    all_goals first | exact (hOC.app _).jk | trace_state
  rcases hv with ⟨rfl, _⟩ | ⟨p, o, c, ob, rfl, hp, hcell⟩
  · exact absurd rfl h0
  have hc := hcap _ _ _ _ _ rfl
  obtain rfl := hof _ _ _ _ _ rfl
  obtain ⟨n, hn⟩ : ∃ n, xs.length = n := ⟨_, rfl⟩
  have hgen := hgen_any cX hc0 (by omega) (by omega) hI
  have hyS : ∀ B, Old C B → Sl B (.slice p 0 xs.length c 1) xs := fun B hB => .inr ⟨p, 0, c, ob, rfl, (hOC.trans hB).getO hp, hcell⟩
  rw [hn] at hl1 hlen20 hlv hc hmS hc0 h0 hgen hyS ⊢
  repeat' first | (with_reducible (show W _ _ _ _ _); with_reducible refine go2 ?_) | (with_reducible (show W _ _ _ _ _); with_reducible refine sg2 ?_ ?_ <;> intro _) | (with_reducible (show W _ _ (.code (.region 12 _ true) :: _) _ _); with_reducible refine W_draw [(0, []), (1, []), (2, []), (3, []), (4, []), (5, []), (6, []), (7, []), (8, [])] [] (by kernel_rfl) ?_) | (with_reducible (show W _ _ (.code (.region 36 _ true) :: _) _ _); with_reducible refine W_draw [(0, []), (1, [0]), (2, []), (3, []), (4, []), (5, []), (6, [5]), (7, []), (8, []), (9, [])] [0, 5] (by kernel_rfl) ?_) | (with_reducible (show W _ _ (.code (.region 45 _ true) :: _) _ _); with_reducible refine W_draw [(0, []), (1, []), (2, []), (8, []), (9, []), (10, []), (3, [0]), (4, []), (5, []), (6, []), (7, []), (11, []), (12, []), (13, []), (14, []), (15, [])] [0] (by kernel_rfl) ?_)
  (with_reducible (show CallK _ _ _ _ _ _ _ _ _ _ _)); with_reducible refine cx2 hgen ?_
  rintro u' D ⟨vV, V, tau, b, f, e, rfl, hCD, hSV, hone, hcase⟩
  clear hgen hl1
  have h0' : ((n : Int) = 0) = False := eq_false (by omega)
  replace hcase : Hid2 _ := hcase
  repeat' first | (with_reducible (show W _ _ _ _ _); with_reducible refine go2 ?_) | (with_reducible (show W _ _ _ _ _); with_reducible refine sg2 ?_ ?_ <;> intro _) | (with_reducible (show W _ _ (.code (.region 12 _ true) :: _) _ _); with_reducible refine W_draw [(0, []), (1, []), (2, []), (3, []), (4, []), (5, []), (6, []), (7, []), (8, [])] [] (by kernel_rfl) ?_) | (with_reducible (show W _ _ (.code (.region 36 _ true) :: _) _ _); with_reducible refine W_draw [(0, []), (1, [0]), (2, []), (3, []), (4, []), (5, []), (6, [5]), (7, []), (8, []), (9, [])] [0, 5] (by kernel_rfl) ?_) | (with_reducible (show W _ _ (.code (.region 45 _ true) :: _) _ _); with_reducible refine W_draw [(0, []), (1, []), (2, []), (8, []), (9, []), (10, []), (3, [0]), (4, []), (5, []), (6, []), (7, []), (11, []), (12, []), (13, []), (14, []), (15, [])] [0] (by kernel_rfl) ?_)
  obtain ⟨B, hB⟩ : ∃ B, D ++ [some ⟨[vV, u64 tau], true⟩] = B := ⟨_, rfl⟩
  have cB : hget B D.length = some ⟨[vV, u64 tau], true⟩ := by rw [← hB]; exact hget_new'
  have hDB : Old D B := by rw [← hB]; exact (Old.refl _).app _
  have hVB : ∀ E, Old B E → Sl E vV V := fun E hE => by
    have := hDB.trans hE
    obtain ⟨J, rfl⟩ := this.jk
    exact hSV.app J
  have hlV := len22 hSV
  have hCB := hCD.trans hDB
  obtain ⟨r, hr⟩ : ∃ r, D.length = r := ⟨_, rfl⟩
  rw [hr] at cB
  obtain ⟨y, hy⟩ : ∃ y, MV.slice p 0 n c 1 = y := ⟨_, rfl⟩
  obtain ⟨m, hm⟩ : ∃ m, MV.slice pm 0 n c0 1 = m := ⟨_, rfl⟩
  have e1 : ∀ k : Nat, (k : Int) < n → IntKind.i64.wrap ((k : Int) + 1) = ((k + 1 : Nat) : Int) := fun k h => by rw [wrap_i64 (by omega)]; omega
  refine W_for (fun j ρ B' => ∃ k : Nat, k + j = n ∧ B' = B ∧ ρ 0 = y ∧ ρ 3 = m ∧ ρ 4 = .ptr r 0 ∧ ρ 5 = u64 b ∧ ρ 6 = u8 f ∧ ρ 7 = i64 e ∧ ρ 45 = i64 (n : Int) ∧ ρ 46 = i64 (k : Int)) n ?_ ?_
  · exact ⟨0, by omega, hB, hy, hm, by rw [← hr]; rfl, rfl, rfl, rfl, rfl, rfl⟩
  rintro j ρ B' ⟨k, hk, rfl, h0, h3, h4, h5, h6, h7, h45, h46⟩
  have hyB := hyS B' hCB
  have hmB := hmS B' hCB
  rw [hy] at hyB
  rw [hm] at hmB
  have hly : lenV Tryd.prog 22 y = some (i64 (n : Int)) := by rw [← hn]; exact len22 hyB
  by_cases hlt : (k : Int) < n
  · have g1 := hmB.ia (j := k) (by omega) 8 (some [.int .u64 0]) true .i64
    have g2 := hyB.ia (j := k) (by omega) 8 (some [.int .u64 0]) true .i64
    have g3 := hmB.ld (P := Tryd.prog) (t := 24) (j := k) (by rw [ty_24]) (by rw [ty_24]) (by omega)
    have g4 := hyB.ld (P := Tryd.prog) (t := 24) (j := k) (by rw [ty_24]) (by rw [ty_24]) (by omega)
    have e2 := e1 k hlt
    repeat' first | (with_reducible (show W _ _ _ _ _); with_reducible refine go2 ?_) | (with_reducible (show W _ _ _ _ _); with_reducible refine sg2 ?_ ?_ <;> intro _) | (with_reducible (show W _ _ _ _ _); with_reducible refine sc2 ?_ ?_ <;> intro _) | (with_reducible (show W _ _ (.code (.region 12 _ true) :: _) _ _); with_reducible refine W_draw [(0, []), (1, []), (2, []), (3, []), (4, []), (5, []), (6, []), (7, []), (8, [])] [] (by kernel_rfl) ?_) | (with_reducible (show W _ _ (.code (.region 36 _ true) :: _) _ _); with_reducible refine W_draw [(0, []), (1, [0]), (2, []), (3, []), (4, []), (5, []), (6, [5]), (7, []), (8, []), (9, [])] [0, 5] (by kernel_rfl) ?_) | (with_reducible (show W _ _ (.code (.region 45 _ true) :: _) _ _); with_reducible refine W_draw [(0, []), (1, []), (2, []), (8, []), (9, []), (10, []), (3, [0]), (4, []), (5, []), (6, []), (7, []), (11, []), (12, []), (13, []), (14, []), (15, [])] [0] (by kernel_rfl) ?_)
    all_goals first
      | exact ⟨j - 1, by omega, k + 1, by omega, rfl⟩
      | trace_state
  have e1' := e1
  clear e1
  repeat' first | (with_reducible (show W _ _ _ _ _); with_reducible refine go2 ?_) | (with_reducible (show W _ _ _ _ _); with_reducible refine sg2 ?_ ?_ <;> intro _) | (with_reducible (show W _ _ _ _ _); with_reducible refine sc2 ?_ ?_ <;> intro _) | (with_reducible (show W _ _ (.code (.region 12 _ true) :: _) _ _); with_reducible refine W_draw [(0, []), (1, []), (2, []), (3, []), (4, []), (5, []), (6, []), (7, []), (8, [])] [] (by kernel_rfl) ?_) | (with_reducible (show W _ _ (.code (.region 36 _ true) :: _) _ _); with_reducible refine W_draw [(0, []), (1, [0]), (2, []), (3, []), (4, []), (5, []), (6, [5]), (7, []), (8, []), (9, [])] [0, 5] (by kernel_rfl) ?_) | (with_reducible (show W _ _ (.code (.region 45 _ true) :: _) _ _); with_reducible refine W_draw [(0, []), (1, []), (2, []), (8, []), (9, []), (10, []), (3, [0]), (4, []), (5, []), (6, []), (7, []), (11, []), (12, []), (13, []), (14, []), (15, [])] [0] (by kernel_rfl) ?_)
  clear h45 h46 hk hlt k j
  refine W_for (fun j ρ B => ∃ k : Nat, k + j = n ∧ (∀ i, i < k → finiteM (xs.getD i 0) = true) ∧ B = B' ∧ ρ 0 = y ∧ ρ 4 = .ptr r 0 ∧ ρ 5 = u64 b ∧ ρ 6 = u8 f ∧ ρ 7 = i64 e ∧ ρ 59 = y ∧ ρ 60 = i64 (n : Int) ∧ ρ 61 = i64 (k : Int)) n ?_ ?_
  · exact ⟨0, by omega, fun i hi => by omega, rfl, h0, h4, h5, h6, h7, rfl, rfl, rfl⟩
  clear h0 h3 h4 h5 h6 h7
  rintro j ρ B ⟨k, hk, hall, rfl, h0, h4, h5, h6, h7, h59, h60, h61⟩
  replace hall : Hid2 _ := hall
  by_cases hlt : (k : Int) < n
  · have g2 := hyB.ia (j := k) (by omega) 8 (some [.int .u64 0]) true .i64
    have g4 := hyB.ld (P := Tryd.prog) (t := 24) (j := k) (by rw [ty_24]) (by rw [ty_24]) (by omega)
    have e2 := e1' k hlt
    cases hfk : finiteM (xs.getD k 0)
    · have hfl : finL xs = false := by
        cases hh : finL xs
        · rfl
        · have := List.all_eq_true.1 hh _ (getD_mem' (show k < xs.length by omega))
          rw [hfk] at this; cases this
      rcases hcase with ⟨_, rfl, rfl⟩ | ⟨h, _⟩
      · replace hlV : lenV Tryd.prog 22 vV = some (i64 0) := hlV
        repeat' first | (with_reducible (show W _ _ _ _ _); with_reducible refine go2 ?_) | (with_reducible (show W _ _ _ _ _); with_reducible refine sg2 ?_ ?_ <;> intro _) | (with_reducible (show W _ _ _ _ _); with_reducible refine sc2 ?_ ?_ <;> intro _) | (with_reducible (show CallK _ _ _ _ _ _ _ _ _ _ _); with_reducible refine ce2 (finite_spec _ _) ?_) | (with_reducible (show W _ _ (.code (.region 12 _ true) :: _) _ _); with_reducible refine W_draw [(0, []), (1, []), (2, []), (3, []), (4, []), (5, []), (6, []), (7, []), (8, [])] [] (by kernel_rfl) ?_) | (with_reducible (show W _ _ (.code (.region 36 _ true) :: _) _ _); with_reducible refine W_draw [(0, []), (1, [0]), (2, []), (3, []), (4, []), (5, []), (6, [5]), (7, []), (8, []), (9, [])] [0, 5] (by kernel_rfl) ?_) | (with_reducible (show W _ _ (.code (.region 45 _ true) :: _) _ _); with_reducible refine W_draw [(0, []), (1, []), (2, []), (8, []), (9, []), (10, []), (3, [0]), (4, []), (5, []), (6, []), (7, []), (11, []), (12, []), (13, []), (14, []), (15, [])] [0] (by kernel_rfl) ?_)
        all_goals first
          | exact ((hOC.trans hCB).app _).jk
          | exact (hOC.trans hCB).jk
          | trace_state
      · rw [hfl] at h; cases h
    · repeat' first | (with_reducible (show W _ _ _ _ _); with_reducible refine go2 ?_) | (with_reducible (show W _ _ _ _ _); with_reducible refine sg2 ?_ ?_ <;> intro _) | (with_reducible (show W _ _ _ _ _); with_reducible refine sc2 ?_ ?_ <;> intro _) | (with_reducible (show CallK _ _ _ _ _ _ _ _ _ _ _); with_reducible refine ce2 (finite_spec _ _) ?_) | (with_reducible (show W _ _ (.code (.region 12 _ true) :: _) _ _); with_reducible refine W_draw [(0, []), (1, []), (2, []), (3, []), (4, []), (5, []), (6, []), (7, []), (8, [])] [] (by kernel_rfl) ?_) | (with_reducible (show W _ _ (.code (.region 36 _ true) :: _) _ _); with_reducible refine W_draw [(0, []), (1, [0]), (2, []), (3, []), (4, []), (5, []), (6, [5]), (7, []), (8, []), (9, [])] [0, 5] (by kernel_rfl) ?_) | (with_reducible (show W _ _ (.code (.region 45 _ true) :: _) _ _); with_reducible refine W_draw [(0, []), (1, []), (2, []), (8, []), (9, []), (10, []), (3, [0]), (4, []), (5, []), (6, []), (7, []), (11, []), (12, []), (13, []), (14, []), (15, [])] [0] (by kernel_rfl) ?_)
      all_goals first
        | (refine ⟨j - 1, by omega, k + 1, by omega, fun i hi => ?_, rfl⟩
           by_cases e : i = k
           · rw [e]; exact hfk
           · exact hall i (by omega))
        | trace_state
  have hfin : finL xs = true := List.all_eq_true.2 fun x hx => by
    obtain ⟨i, hi, rfl⟩ := mem_getD hx
    exact hall i (by omega)
  rcases hcase with ⟨h, _⟩ | ⟨_, rfl, rfl, rfl, rfl, rfl, q, w, hq, hnw, rfl⟩
  · rw [hfin] at h; cases h
  have hV1 := genV_one xs (by omega)
  have hx : ∀ x ∈ xs, Fn x := fun x hx => ⟨hI x hx, List.all_eq_true.1 hfin x hx⟩
  have cr : hget B r = _ := cB
  have hVB' := hVB B (Old.refl _)
  have hld0 : loadV Tryd.prog 24 (.ptr q 0) B = some (u64 4607182418800017408) := by
    have := hVB'.ld (P := Tryd.prog) (t := 24) (j := 0) (by rw [ty_24]) (by rw [ty_24]) (by rw [genV_len (by omega)]; omega)
    rw [hV1] at this
    exact this
  rw [genV_len (by omega), hn] at hlV
  have om : ∀ f : Operand → MV, Option.map f none = none := fun _ => _root_.id rfl
  subst hy
  have hx1 := hyB.tl hn (by omega) hc
  have hv1 := hVB'.tl ((genV_len (by omega)).trans hn) (by omega) hnw
  have hll1 : xs.tail.length ≤ 1000000 := by rw [List.length_tail]; omega
  have hn0 : (0 < (n : Int)) = True := eq_true (by omega)
  have hn1 : (1 ≤ (n : Int)) = True := eq_true (by omega)
  have s3 : Int.toNat 1 = 1 := _root_.id rfl
  have s4 : ((0 : Int) ≤ 1) = True := eq_true (by decide)
  repeat' first | (with_reducible (show W _ _ _ _ _); with_reducible refine go2 ?_) | (with_reducible (show W _ _ _ _ _); with_reducible refine sg2 ?_ ?_ <;> intro _) | (with_reducible (show CallK _ _ _ _ _ _ _ _ _ _ _); with_reducible refine ce2 (power_spec hyB (by omega)) ?_) | (with_reducible (show CallK _ _ _ _ _ _ _ _ _ _ _); with_reducible refine ce2 (power_spec hx1 hll1) ?_) | (with_reducible (show W _ _ (.code (.region 12 _ true) :: _) _ _); with_reducible refine W_draw [(0, []), (1, []), (2, []), (3, []), (4, []), (5, []), (6, []), (7, []), (8, [])] [] (by kernel_rfl) ?_) | (with_reducible (show W _ _ (.code (.region 36 _ true) :: _) _ _); with_reducible refine W_draw [(0, []), (1, [0]), (2, []), (3, []), (4, []), (5, []), (6, [5]), (7, []), (8, []), (9, [])] [0, 5] (by kernel_rfl) ?_) | (with_reducible (show W _ _ (.code (.region 45 _ true) :: _) _ _); with_reducible refine W_draw [(0, []), (1, []), (2, []), (8, []), (9, []), (10, []), (3, [0]), (4, []), (5, []), (6, []), (7, []), (11, []), (12, []), (13, []), (14, []), (15, [])] [0] (by kernel_rfl) ?_)
  all_goals try (with_reducible refine sc2 ?_ ?_ <;> intro hcnd)
  rotate_left
  · have hB : genB xs = false := by unfold genB; simp_all
    obtain ⟨t1, t2, hvs, hdot⟩ := gens_tau hx (by omega) hB
    rw [hn] at hvs hdot
    have q1 : (sgi (vx (genT xs) - ((1 : Int) : Rat)) < 0) = False := eq_false (by
      have := sgi_ge (x := vx (genT xs) - ((1 : Int) : Rat)) (by have : ((1 : Int) : Rat) = 1 := rfl
                                                                 grind)
      omega)
    have q2 : (0 < sgi (vx (genT xs) - ((2 : Int) : Rat))) = False := eq_false (by
      have := (sgi_le (x := vx (genT xs) - ((2 : Int) : Rat))).2 (by have : ((2 : Int) : Rat) = 2 := rfl
                                                                     grind)
      omega)
    repeat' first | (with_reducible (show W _ _ _ _ _); with_reducible refine go2 ?_) | (with_reducible (show W _ _ _ _ _); with_reducible refine sg2 ?_ ?_ <;> intro _) | (with_reducible (show W _ _ (.code (.region 12 _ true) :: _) _ _); with_reducible refine W_draw [(0, []), (1, []), (2, []), (3, []), (4, []), (5, []), (6, []), (7, []), (8, [])] [] (by kernel_rfl) ?_) | (with_reducible (show W _ _ (.code (.region 36 _ true) :: _) _ _); with_reducible refine W_draw [(0, []), (1, [0]), (2, []), (3, []), (4, []), (5, []), (6, [5]), (7, []), (8, []), (9, [])] [0, 5] (by kernel_rfl) ?_) | (with_reducible (show W _ _ (.code (.region 45 _ true) :: _) _ _); with_reducible refine W_draw [(0, []), (1, []), (2, []), (8, []), (9, []), (10, []), (3, [0]), (4, []), (5, []), (6, []), (7, []), (11, []), (12, []), (13, []), (14, []), (15, [])] [0] (by kernel_rfl) ?_)
    (with_reducible (show CallK _ _ _ _ _ _ _ _ _ _ _)); with_reducible refine cx2 (exact13 (genT_in xs) _) ?_
    rintro w1 C1 ⟨hC1, s1, l1, x1, rfl, hN1⟩
    have ho1 := hN1.one
    repeat' first | (with_reducible (show W _ _ _ _ _); with_reducible refine go2 ?_) | (with_reducible (show W _ _ _ _ _); with_reducible refine sg2 ?_ ?_ <;> intro _) | (with_reducible (show W _ _ (.code (.region 12 _ true) :: _) _ _); with_reducible refine W_draw [(0, []), (1, []), (2, []), (3, []), (4, []), (5, []), (6, []), (7, []), (8, [])] [] (by kernel_rfl) ?_) | (with_reducible (show W _ _ (.code (.region 36 _ true) :: _) _ _); with_reducible refine W_draw [(0, []), (1, [0]), (2, []), (3, []), (4, []), (5, []), (6, [5]), (7, []), (8, []), (9, [])] [0, 5] (by kernel_rfl) ?_) | (with_reducible (show W _ _ (.code (.region 45 _ true) :: _) _ _); with_reducible refine W_draw [(0, []), (1, []), (2, []), (8, []), (9, []), (10, []), (3, [0]), (4, []), (5, []), (6, []), (7, []), (11, []), (12, []), (13, []), (14, []), (15, [])] [0] (by kernel_rfl) ?_)
    have hBC1 := hC1
    obtain ⟨E, hE⟩ : ∃ E, C1 ++ [some ⟨[bl s1, l1, i64 x1], true⟩] = E := ⟨_, rfl⟩
    have cE : hget E C1.length = some ⟨[bl s1, l1, i64 x1], true⟩ := by rw [← hE]; exact hget_new'
    have hCE : Old C1 E := by rw [← hE]; exact (Old.refl _).app _
    rw [hE]
    clear hE
    obtain ⟨rT, hrT⟩ : ∃ rT, C1.length = rT := ⟨_, rfl⟩
    rw [hrT] at cE ⊢
    clear hrT
    have hNE := hN1.old hCE
    (with_reducible (show CallK _ _ _ _ _ _ _ _ _ _ _)); with_reducible refine cxh (int_num 1 (by decide) _) ?_
    rintro w2 E2 ⟨hE2, s2, l2, x2, rfl, hN2⟩
    have cE2 := hE2.getO cE
    refine ⟨by simp [held_cons, held_nil', sem_load, loadV_ptr, cellsAt_eq, ty_34, cE2, ho1], ?_⟩
    repeat' first | (with_reducible (show W _ _ _ _ _); with_reducible refine go2 ?_) | (with_reducible (show W _ _ _ _ _); with_reducible refine sg2 ?_ ?_ <;> intro _) | (with_reducible (show CallK _ _ _ _ _ _ _ _ _ _ _); with_reducible refine ce2 (cmp_num (hNE.old hE2) (hN2.mono (show (64 : Int) ≤ 1100 by decide)) (by decide)) ?_) | (with_reducible (show W _ _ (.code (.region 12 _ true) :: _) _ _); with_reducible refine W_draw [(0, []), (1, []), (2, []), (3, []), (4, []), (5, []), (6, []), (7, []), (8, [])] [] (by kernel_rfl) ?_) | (with_reducible (show W _ _ (.code (.region 36 _ true) :: _) _ _); with_reducible refine W_draw [(0, []), (1, [0]), (2, []), (3, []), (4, []), (5, []), (6, [5]), (7, []), (8, []), (9, [])] [0, 5] (by kernel_rfl) ?_) | (with_reducible (show W _ _ (.code (.region 45 _ true) :: _) _ _); with_reducible refine W_draw [(0, []), (1, []), (2, []), (8, []), (9, []), (10, []), (3, [0]), (4, []), (5, []), (6, []), (7, []), (11, []), (12, []), (13, []), (14, []), (15, [])] [0] (by kernel_rfl) ?_)
    (with_reducible (show CallK _ _ _ _ _ _ _ _ _ _ _)); with_reducible refine cxh (int_num 2 (by decide) _) ?_
    rintro w3 E3 ⟨hE3, s3', l3, x3, rfl, hN3⟩
    have cE3 := hE3.getO cE2
    refine ⟨by simp [held_cons, held_nil', sem_load, loadV_ptr, cellsAt_eq, ty_34, cE3, ho1], ?_⟩
    have hBE3 : Old B E3 := hC1.trans (hCE.trans (hE2.trans hE3))
    have cB3 := hBE3.getO cB
    repeat' first | (with_reducible (show W _ _ _ _ _); with_reducible refine go2 ?_) | (with_reducible (show W _ _ _ _ _); with_reducible refine sg2 ?_ ?_ <;> intro _) | (with_reducible (show CallK _ _ _ _ _ _ _ _ _ _ _); with_reducible refine ce2 (cmp_num ((hNE.old hE2).old hE3) (hN3.mono (show (64 : Int) ≤ 1100 by decide)) (by decide)) ?_) | (with_reducible (show W _ _ (.code (.region 12 _ true) :: _) _ _); with_reducible refine W_draw [(0, []), (1, []), (2, []), (3, []), (4, []), (5, []), (6, []), (7, []), (8, [])] [] (by kernel_rfl) ?_) | (with_reducible (show W _ _ (.code (.region 36 _ true) :: _) _ _); with_reducible refine W_draw [(0, []), (1, [0]), (2, []), (3, []), (4, []), (5, []), (6, [5]), (7, []), (8, []), (9, [])] [0, 5] (by kernel_rfl) ?_) | (with_reducible (show W _ _ (.code (.region 45 _ true) :: _) _ _); with_reducible refine W_draw [(0, []), (1, []), (2, []), (8, []), (9, []), (10, []), (3, [0]), (4, []), (5, []), (6, []), (7, []), (11, []), (12, []), (13, []), (14, []), (15, [])] [0] (by kernel_rfl) ?_)
    have hEE3 : Old E E3 := hE2.trans hE3
    clear q1 q2 cE2 hN2 hN3 hC1 hE2 hE3
    refine W_for (fun j ρ' C' => ∃ k : Nat, k + j = n ∧ Old E3 C' ∧ ρ' 0 = .slice p 0 n c 1 ∧ ρ' 4 = .ptr r 0 ∧ ρ' 5 = u64 (genK xs).1 ∧ ρ' 6 = u8 (genK xs).2 ∧ ρ' 11 = i64 (n : Int) ∧ ρ' 18 = .ptr rT 0 ∧ ρ' 159 = .slice q 0 n w 1 ∧ ρ' 160 = i64 (n : Int) ∧ ρ' 161 = i64 (k : Int)) n ?_ ?_
    · exact ⟨0, by omega, Old.refl _, h0, h4, h5, h6, rfl, rfl, rfl, rfl, rfl⟩
    clear h0 h4 h5 h6 h7 h59 h60 h61 hlt hall hk k j
    rintro j ρ' C' ⟨k, hk, hC', h0, h4, h5, h6, h11, h18, h159, h160, h161⟩
    have hBC' := hBE3.trans hC'
    have hVC := hVB C' hBC'
    by_cases hlt : (k : Int) < n
    · have g2 := hVC.ia (j := k) (by rw [genV_len (by omega)]; omega) 8 (some [.int .u64 0]) true .i64
      have g4 := hVC.ld (P := Tryd.prog) (t := 24) (j := k) (by rw [ty_24]) (by rw [ty_24]) (by rw [genV_len (by omega)]; omega)
      have e2 := e1' k hlt
      obtain ⟨g5, g6⟩ := hvs k (by omega)
      have q1 : (0 < sgi (ab (vx ((genV xs).getD k 0)) - ((1 : Int) : Rat))) = False := eq_false (by
        have := (sgi_le (x := ab (vx ((genV xs).getD k 0)) - ((1 : Int) : Rat))).2 (by have : ((1 : Int) : Rat) = 1 := rfl
                                                                                       grind)
        omega)
      have hin := getD_in (genV_in xs) k
      obtain ⟨vk, hvk⟩ : ∃ vk, (genV xs).getD k 0 = vk := ⟨_, rfl⟩
      rw [hvk] at g4 g5 q1 hin
      clear hvk g6
      repeat' first | (with_reducible (show W _ _ _ _ _); with_reducible refine go2 ?_) | (with_reducible (show W _ _ _ _ _); with_reducible refine sg2 ?_ ?_ <;> intro _) | (with_reducible (show CallK _ _ _ _ _ _ _ _ _ _ _); with_reducible refine ce2 (finite_spec _ _) ?_) | (with_reducible (show W _ _ (.code (.region 12 _ true) :: _) _ _); with_reducible refine W_draw [(0, []), (1, []), (2, []), (3, []), (4, []), (5, []), (6, []), (7, []), (8, [])] [] (by kernel_rfl) ?_) | (with_reducible (show W _ _ (.code (.region 36 _ true) :: _) _ _); with_reducible refine W_draw [(0, []), (1, [0]), (2, []), (3, []), (4, []), (5, []), (6, [5]), (7, []), (8, []), (9, [])] [0, 5] (by kernel_rfl) ?_) | (with_reducible (show W _ _ (.code (.region 45 _ true) :: _) _ _); with_reducible refine W_draw [(0, []), (1, []), (2, []), (8, []), (9, []), (10, []), (3, [0]), (4, []), (5, []), (6, []), (7, []), (11, []), (12, []), (13, []), (14, []), (15, [])] [0] (by kernel_rfl) ?_)
      (with_reducible (show CallK _ _ _ _ _ _ _ _ _ _ _)); with_reducible refine cx2 (exact13 hin _) ?_
      rintro w4 F1 ⟨hF1, s4', l4, x4, rfl, hN4⟩
      have ho4 := hN4.one
      repeat' first | (with_reducible (show W _ _ _ _ _); with_reducible refine go2 ?_) | (with_reducible (show W _ _ _ _ _); with_reducible refine sg2 ?_ ?_ <;> intro _) | (with_reducible (show W _ _ (.code (.region 12 _ true) :: _) _ _); with_reducible refine W_draw [(0, []), (1, []), (2, []), (3, []), (4, []), (5, []), (6, []), (7, []), (8, [])] [] (by kernel_rfl) ?_) | (with_reducible (show W _ _ (.code (.region 36 _ true) :: _) _ _); with_reducible refine W_draw [(0, []), (1, [0]), (2, []), (3, []), (4, []), (5, []), (6, [5]), (7, []), (8, []), (9, [])] [0, 5] (by kernel_rfl) ?_) | (with_reducible (show W _ _ (.code (.region 45 _ true) :: _) _ _); with_reducible refine W_draw [(0, []), (1, []), (2, []), (8, []), (9, []), (10, []), (3, [0]), (4, []), (5, []), (6, []), (7, []), (11, []), (12, []), (13, []), (14, []), (15, [])] [0] (by kernel_rfl) ?_)
      (with_reducible (show CallK _ _ _ _ _ _ _ _ _ _ _)); with_reducible refine cx2 (abs_num hN4) ?_
      rintro w5 F2 ⟨hF2, s5, l5, x5, rfl, hN5⟩
      repeat' first | (with_reducible (show W _ _ _ _ _); with_reducible refine go2 ?_) | (with_reducible (show W _ _ _ _ _); with_reducible refine sg2 ?_ ?_ <;> intro _) | (with_reducible (show W _ _ (.code (.region 12 _ true) :: _) _ _); with_reducible refine W_draw [(0, []), (1, []), (2, []), (3, []), (4, []), (5, []), (6, []), (7, []), (8, [])] [] (by kernel_rfl) ?_) | (with_reducible (show W _ _ (.code (.region 36 _ true) :: _) _ _); with_reducible refine W_draw [(0, []), (1, [0]), (2, []), (3, []), (4, []), (5, []), (6, [5]), (7, []), (8, []), (9, [])] [0, 5] (by kernel_rfl) ?_) | (with_reducible (show W _ _ (.code (.region 45 _ true) :: _) _ _); with_reducible refine W_draw [(0, []), (1, []), (2, []), (8, []), (9, []), (10, []), (3, [0]), (4, []), (5, []), (6, []), (7, []), (11, []), (12, []), (13, []), (14, []), (15, [])] [0] (by kernel_rfl) ?_)
      (with_reducible (show CallK _ _ _ _ _ _ _ _ _ _ _)); with_reducible refine cx2 (int_num 1 (by decide) _) ?_
      rintro w6 F3 ⟨hF3, s6, l6, x6, rfl, hN6⟩
      have hF := hC'.trans (hF1.trans (hF2.trans hF3))
      repeat' first | (with_reducible (show W _ _ _ _ _); with_reducible refine go2 ?_) | (with_reducible (show W _ _ _ _ _); with_reducible refine sg2 ?_ ?_ <;> intro _) | (with_reducible (show CallK _ _ _ _ _ _ _ _ _ _ _); with_reducible refine ce2 (cmp_num (hN5.old hF3) (hN6.mono (show (64 : Int) ≤ 1100 by decide)) (by decide)) ?_) | (with_reducible (show W _ _ (.code (.region 12 _ true) :: _) _ _); with_reducible refine W_draw [(0, []), (1, []), (2, []), (3, []), (4, []), (5, []), (6, []), (7, []), (8, [])] [] (by kernel_rfl) ?_) | (with_reducible (show W _ _ (.code (.region 36 _ true) :: _) _ _); with_reducible refine W_draw [(0, []), (1, [0]), (2, []), (3, []), (4, []), (5, []), (6, [5]), (7, []), (8, []), (9, [])] [0, 5] (by kernel_rfl) ?_) | (with_reducible (show W _ _ (.code (.region 45 _ true) :: _) _ _); with_reducible refine W_draw [(0, []), (1, []), (2, []), (8, []), (9, []), (10, []), (3, [0]), (4, []), (5, []), (6, []), (7, []), (11, []), (12, []), (13, []), (14, []), (15, [])] [0] (by kernel_rfl) ?_)
      all_goals first
        | exact ⟨j - 1, by omega, k + 1, by omega, rfl⟩
        | trace_state
    · have cB4 := hBC'.getO cB
      have cT := (hEE3.trans hC').getO cE
      have hNT := hNE.old (hEE3.trans hC')
      repeat' first | (with_reducible (show W _ _ _ _ _); with_reducible refine go2 ?_) | (with_reducible (show W _ _ _ _ _); with_reducible refine sg2 ?_ ?_ <;> intro _) | (with_reducible (show W _ _ (.code (.region 12 _ true) :: _) _ _); with_reducible refine W_draw [(0, []), (1, []), (2, []), (3, []), (4, []), (5, []), (6, []), (7, []), (8, [])] [] (by kernel_rfl) ?_) | (with_reducible (show W _ _ (.code (.region 36 _ true) :: _) _ _); with_reducible refine W_draw [(0, []), (1, [0]), (2, []), (3, []), (4, []), (5, []), (6, [5]), (7, []), (8, []), (9, [])] [0, 5] (by kernel_rfl) ?_) | (with_reducible (show W _ _ (.code (.region 45 _ true) :: _) _ _); with_reducible refine W_draw [(0, []), (1, []), (2, []), (8, []), (9, []), (10, []), (3, [0]), (4, []), (5, []), (6, []), (7, []), (11, []), (12, []), (13, []), (14, []), (15, [])] [0] (by kernel_rfl) ?_)
      (with_reducible (show CallK _ _ _ _ _ _ _ _ _ _ _)); with_reducible refine cx2 (list13 hVC (genV_in xs) (by rw [genV_len (by omega)]; omega)) ?_
      rintro w4 F1 ⟨hF1, hL1⟩
      have hVl : (genV xs).length = n := (genV_len (by omega)).trans hn
      have cT1 := hF1.getO cT
      have hNT1 := hNT.old hF1
      have e4 : IntKind.i64.wrap ((n : Int) + 4) = (n : Int) + 4 := wrap_i64 (by omega)
      have e5 : IntKind.i64.wrap (32 * ((n : Int) + 4)) = 32 * ((n : Int) + 4) := wrap_i64 (by omega)
      repeat' first | (with_reducible (show W _ _ _ _ _); with_reducible refine go2 ?_) | (with_reducible (show W _ _ _ _ _); with_reducible refine sg2 ?_ ?_ <;> intro _) | (with_reducible (show W _ _ (.code (.region 12 _ true) :: _) _ _); with_reducible refine W_draw [(0, []), (1, []), (2, []), (3, []), (4, []), (5, []), (6, []), (7, []), (8, [])] [] (by kernel_rfl) ?_) | (with_reducible (show W _ _ (.code (.region 36 _ true) :: _) _ _); with_reducible refine W_draw [(0, []), (1, [0]), (2, []), (3, []), (4, []), (5, []), (6, [5]), (7, []), (8, []), (9, [])] [0, 5] (by kernel_rfl) ?_) | (with_reducible (show W _ _ (.code (.region 45 _ true) :: _) _ _); with_reducible refine W_draw [(0, []), (1, []), (2, []), (8, []), (9, []), (10, []), (3, [0]), (4, []), (5, []), (6, []), (7, []), (11, []), (12, []), (13, []), (14, []), (15, [])] [0] (by kernel_rfl) ?_)
      have hdt := dot13 hL1.any hL1.any (Nat.le_refl _) (by rw [List.length_map]; omega) (by decide) (by decide)
      rw [List.length_map, hVl] at hdt
      (with_reducible (show CallK _ _ _ _ _ _ _ _ _ _ _)); with_reducible refine cxh hdt ?_
      rintro w5 F2 ⟨hF2, s5, l5, x5, rfl, hN5⟩
      have cT2 := hF2.getO cT1
      refine ⟨by simp [held_cons, held_nil', sem_load, loadV_ptr, cellsAt_eq, ty_34, cT2, ho1], ?_⟩
      repeat' first | (with_reducible (show W _ _ _ _ _); with_reducible refine go2 ?_) | (with_reducible (show W _ _ _ _ _); with_reducible refine sg2 ?_ ?_ <;> intro _) | (with_reducible (show W _ _ (.code (.region 12 _ true) :: _) _ _); with_reducible refine W_draw [(0, []), (1, []), (2, []), (3, []), (4, []), (5, []), (6, []), (7, []), (8, [])] [] (by kernel_rfl) ?_) | (with_reducible (show W _ _ (.code (.region 36 _ true) :: _) _ _); with_reducible refine W_draw [(0, []), (1, [0]), (2, []), (3, []), (4, []), (5, []), (6, [5]), (7, []), (8, []), (9, [])] [0, 5] (by kernel_rfl) ?_) | (with_reducible (show W _ _ (.code (.region 45 _ true) :: _) _ _); with_reducible refine W_draw [(0, []), (1, []), (2, []), (8, []), (9, []), (10, []), (3, [0]), (4, []), (5, []), (6, []), (7, []), (11, []), (12, []), (13, []), (14, []), (15, [])] [0] (by kernel_rfl) ?_)
      (with_reducible (show CallK _ _ _ _ _ _ _ _ _ _ _)); with_reducible refine cx2 (mul_num (hNT1.old hF2) hN5 (by decide) (by decide)) ?_
      rintro w6 F3 ⟨hF3, s6, l6, x6, rfl, hN6⟩
      repeat' first | (with_reducible (show W _ _ _ _ _); with_reducible refine go2 ?_) | (with_reducible (show W _ _ _ _ _); with_reducible refine sg2 ?_ ?_ <;> intro _) | (with_reducible (show W _ _ (.code (.region 12 _ true) :: _) _ _); with_reducible refine W_draw [(0, []), (1, []), (2, []), (3, []), (4, []), (5, []), (6, []), (7, []), (8, [])] [] (by kernel_rfl) ?_) | (with_reducible (show W _ _ (.code (.region 36 _ true) :: _) _ _); with_reducible refine W_draw [(0, []), (1, [0]), (2, []), (3, []), (4, []), (5, []), (6, [5]), (7, []), (8, []), (9, [])] [0, 5] (by kernel_rfl) ?_) | (with_reducible (show W _ _ (.code (.region 45 _ true) :: _) _ _); with_reducible refine W_draw [(0, []), (1, []), (2, []), (8, []), (9, []), (10, []), (3, [0]), (4, []), (5, []), (6, []), (7, []), (11, []), (12, []), (13, []), (14, []), (15, [])] [0] (by kernel_rfl) ?_)
      (with_reducible (show CallK _ _ _ _ _ _ _ _ _ _ _)); with_reducible refine cx2 (int_num 2 (by decide) _) ?_
      rintro w7 F4 ⟨hF4, s7, l7, x7, rfl, hN7⟩
      repeat' first | (with_reducible (show W _ _ _ _ _); with_reducible refine go2 ?_) | (with_reducible (show W _ _ _ _ _); with_reducible refine sg2 ?_ ?_ <;> intro _) | (with_reducible (show W _ _ (.code (.region 12 _ true) :: _) _ _); with_reducible refine W_draw [(0, []), (1, []), (2, []), (3, []), (4, []), (5, []), (6, []), (7, []), (8, [])] [] (by kernel_rfl) ?_) | (with_reducible (show W _ _ (.code (.region 36 _ true) :: _) _ _); with_reducible refine W_draw [(0, []), (1, [0]), (2, []), (3, []), (4, []), (5, []), (6, [5]), (7, []), (8, []), (9, [])] [0, 5] (by kernel_rfl) ?_) | (with_reducible (show W _ _ (.code (.region 45 _ true) :: _) _ _); with_reducible refine W_draw [(0, []), (1, []), (2, []), (8, []), (9, []), (10, []), (3, [0]), (4, []), (5, []), (6, []), (7, []), (11, []), (12, []), (13, []), (14, []), (15, [])] [0] (by kernel_rfl) ?_)
      (with_reducible (show CallK _ _ _ _ _ _ _ _ _ _ _)); with_reducible refine cx2 (sub_num (hN6.old hF4) (hN7.mono (show (64 : Int) ≤ 1100 + (1100 + 1100 + 1000) by decide)) (by decide)) ?_
      rintro w8 F5 ⟨hF5, s8, l8, x8, rfl, hN8⟩
      repeat' first | (with_reducible (show W _ _ _ _ _); with_reducible refine go2 ?_) | (with_reducible (show W _ _ _ _ _); with_reducible refine sg2 ?_ ?_ <;> intro _) | (with_reducible (show W _ _ (.code (.region 12 _ true) :: _) _ _); with_reducible refine W_draw [(0, []), (1, []), (2, []), (3, []), (4, []), (5, []), (6, []), (7, []), (8, [])] [] (by kernel_rfl) ?_) | (with_reducible (show W _ _ (.code (.region 36 _ true) :: _) _ _); with_reducible refine W_draw [(0, []), (1, [0]), (2, []), (3, []), (4, []), (5, []), (6, [5]), (7, []), (8, []), (9, [])] [0, 5] (by kernel_rfl) ?_) | (with_reducible (show W _ _ (.code (.region 45 _ true) :: _) _ _); with_reducible refine W_draw [(0, []), (1, []), (2, []), (8, []), (9, []), (10, []), (3, [0]), (4, []), (5, []), (6, []), (7, []), (11, []), (12, []), (13, []), (14, []), (15, [])] [0] (by kernel_rfl) ?_)
      (with_reducible (show CallK _ _ _ _ _ _ _ _ _ _ _)); with_reducible refine cx2 (abs_num hN8) ?_
      rintro w9 F6 ⟨hF6, s9, l9, x9, rfl, hN9⟩
      repeat' first | (with_reducible (show W _ _ _ _ _); with_reducible refine go2 ?_) | (with_reducible (show W _ _ _ _ _); with_reducible refine sg2 ?_ ?_ <;> intro _) | (with_reducible (show W _ _ (.code (.region 12 _ true) :: _) _ _); with_reducible refine W_draw [(0, []), (1, []), (2, []), (3, []), (4, []), (5, []), (6, []), (7, []), (8, [])] [] (by kernel_rfl) ?_) | (with_reducible (show W _ _ (.code (.region 36 _ true) :: _) _ _); with_reducible refine W_draw [(0, []), (1, [0]), (2, []), (3, []), (4, []), (5, []), (6, [5]), (7, []), (8, []), (9, [])] [0, 5] (by kernel_rfl) ?_) | (with_reducible (show W _ _ (.code (.region 45 _ true) :: _) _ _); with_reducible refine W_draw [(0, []), (1, []), (2, []), (8, []), (9, []), (10, []), (3, [0]), (4, []), (5, []), (6, []), (7, []), (11, []), (12, []), (13, []), (14, []), (15, [])] [0] (by kernel_rfl) ?_)
      (with_reducible (show CallK _ _ _ _ _ _ _ _ _ _ _)); with_reducible refine cx2 (int_num (32 * ((n : Int) + 4)) (by omega) _) ?_
      rintro w10 F7 ⟨hF7, s10, l10, x10, rfl, hN10⟩
      repeat' first | (with_reducible (show W _ _ _ _ _); with_reducible refine go2 ?_) | (with_reducible (show W _ _ _ _ _); with_reducible refine sg2 ?_ ?_ <;> intro _) | (with_reducible (show W _ _ (.code (.region 12 _ true) :: _) _ _); with_reducible refine W_draw [(0, []), (1, []), (2, []), (3, []), (4, []), (5, []), (6, []), (7, []), (8, [])] [] (by kernel_rfl) ?_) | (with_reducible (show W _ _ (.code (.region 36 _ true) :: _) _ _); with_reducible refine W_draw [(0, []), (1, [0]), (2, []), (3, []), (4, []), (5, []), (6, [5]), (7, []), (8, []), (9, [])] [0, 5] (by kernel_rfl) ?_) | (with_reducible (show W _ _ (.code (.region 45 _ true) :: _) _ _); with_reducible refine W_draw [(0, []), (1, []), (2, []), (8, []), (9, []), (10, []), (3, [0]), (4, []), (5, []), (6, []), (7, []), (11, []), (12, []), (13, []), (14, []), (15, [])] [0] (by kernel_rfl) ?_)
      (with_reducible (show CallK _ _ _ _ _ _ _ _ _ _ _)); with_reducible refine cx2 (two_num (-53) (by decide) (K := 64) (by decide) _) ?_
      rintro w11 F8 ⟨hF8, s11, l11, x11, rfl, hN11⟩
      repeat' first | (with_reducible (show W _ _ _ _ _); with_reducible refine go2 ?_) | (with_reducible (show W _ _ _ _ _); with_reducible refine sg2 ?_ ?_ <;> intro _) | (with_reducible (show W _ _ (.code (.region 12 _ true) :: _) _ _); with_reducible refine W_draw [(0, []), (1, []), (2, []), (3, []), (4, []), (5, []), (6, []), (7, []), (8, [])] [] (by kernel_rfl) ?_) | (with_reducible (show W _ _ (.code (.region 36 _ true) :: _) _ _); with_reducible refine W_draw [(0, []), (1, [0]), (2, []), (3, []), (4, []), (5, []), (6, [5]), (7, []), (8, []), (9, [])] [0, 5] (by kernel_rfl) ?_) | (with_reducible (show W _ _ (.code (.region 45 _ true) :: _) _ _); with_reducible refine W_draw [(0, []), (1, []), (2, []), (8, []), (9, []), (10, []), (3, [0]), (4, []), (5, []), (6, []), (7, []), (11, []), (12, []), (13, []), (14, []), (15, [])] [0] (by kernel_rfl) ?_)
      (with_reducible (show CallK _ _ _ _ _ _ _ _ _ _ _)); with_reducible refine cx2 (mul_num (hN10.old hF8) hN11 (by decide) (by decide)) ?_
      rintro w12 F9 ⟨hF9, s12, l12, x12, rfl, hN12⟩
      have q1 : (0 < sgi (ab (vx (genT xs) * dotR ((genV xs).map vx) ((genV xs).map vx) n - ((2 : Int) : Rat)) - ((32 * ((n : Int) + 4) : Int) : Rat) * pw (-53))) = False := eq_false (by
        have := (sgi_le (x := ab (vx (genT xs) * dotR ((genV xs).map vx) ((genV xs).map vx) n - ((2 : Int) : Rat)) - ((32 * ((n : Int) + 4) : Int) : Rat) * pw (-53))).2 (by
          have : ((2 : Int) : Rat) = 2 := rfl
          rw [this]
          grind)
        omega)
      have hBF := hBC'.trans (hF1.trans (hF2.trans (hF3.trans (hF4.trans (hF5.trans (hF6.trans (hF7.trans (hF8.trans hF9))))))))
      repeat' first | (with_reducible (show W _ _ _ _ _); with_reducible refine go2 ?_) | (with_reducible (show W _ _ _ _ _); with_reducible refine sg2 ?_ ?_ <;> intro _) | (with_reducible (show CallK _ _ _ _ _ _ _ _ _ _ _); with_reducible refine ce2 (cmp_num (((hN9.old hF7).old hF8).old hF9) (hN12.mono (show (64 + 64 : Int) ≤ 1100 + (1100 + 1100 + 1000) + 1 by decide)) (by decide)) ?_) | (with_reducible (show W _ _ (.code (.region 12 _ true) :: _) _ _); with_reducible refine W_draw [(0, []), (1, []), (2, []), (3, []), (4, []), (5, []), (6, []), (7, []), (8, [])] [] (by kernel_rfl) ?_) | (with_reducible (show W _ _ (.code (.region 36 _ true) :: _) _ _); with_reducible refine W_draw [(0, []), (1, [0]), (2, []), (3, []), (4, []), (5, []), (6, [5]), (7, []), (8, []), (9, [])] [0, 5] (by kernel_rfl) ?_) | (with_reducible (show W _ _ (.code (.region 45 _ true) :: _) _ _); with_reducible refine W_draw [(0, []), (1, []), (2, []), (8, []), (9, []), (10, []), (3, [0]), (4, []), (5, []), (6, []), (7, []), (11, []), (12, []), (13, []), (14, []), (15, [])] [0] (by kernel_rfl) ?_)
--BEGINTAIL
      (with_reducible refine sc2 ?_ ?_ <;> intro hc6)
      · repeat' first | (with_reducible (show W _ _ _ _ _); with_reducible refine go2 ?_) | (with_reducible (show W _ _ _ _ _); with_reducible refine sg2 ?_ ?_ <;> intro _) | (with_reducible (show W _ _ (.code (.region 12 _ true) :: _) _ _); with_reducible refine W_draw [(0, []), (1, []), (2, []), (3, []), (4, []), (5, []), (6, []), (7, []), (8, [])] [] (by kernel_rfl) ?_) | (with_reducible (show W _ _ (.code (.region 36 _ true) :: _) _ _); with_reducible refine W_draw [(0, []), (1, [0]), (2, []), (3, []), (4, []), (5, []), (6, [5]), (7, []), (8, []), (9, [])] [0, 5] (by kernel_rfl) ?_) | (with_reducible (show W _ _ (.code (.region 45 _ true) :: _) _ _); with_reducible refine W_draw [(0, []), (1, []), (2, []), (8, []), (9, []), (10, []), (3, [0]), (4, []), (5, []), (6, []), (7, []), (11, []), (12, []), (13, []), (14, []), (15, [])] [0] (by kernel_rfl) ?_)
        exact ((hOC.trans hCB).trans hBF).jk
      have hf : (genK xs).2 = 0 ∨ (genK xs).2 = 1 := by
        first
          | exact .inl hf0
          | (rcases genK_fl hx (by omega) with h | h | h | h | h
             · exact .inl h
             · exact .inr h
             all_goals (rw [h] at hc6; exact absurd hc6 (by decide)))
      have hgl := gens_law hx (by omega) (by omega) hf
      have hKin := genK_in hI
      rw [hn] at hgl
      obtain ⟨be, hbe⟩ : ∃ be, (genK xs).1 = be := ⟨_, rfl⟩
      rw [hbe] at hgl hKin h5
      clear hc6 hf
      have hb1 := bsV_num
      have htyn : (ty Tryd.prog 31).k = .slice 3 40 (some [.bool false, .slice none 0 0, .int .i64 0]) false := by rw [ty_31]
      repeat' first | (with_reducible (show W _ _ _ _ _); with_reducible refine go2 ?_) | (with_reducible (show W _ _ _ _ _); with_reducible refine sg2 ?_ ?_ <;> intro _) | (with_reducible (show W _ _ (.code (.region 12 _ true) :: _) _ _); with_reducible refine W_draw [(0, []), (1, []), (2, []), (3, []), (4, []), (5, []), (6, []), (7, []), (8, [])] [] (by kernel_rfl) ?_) | (with_reducible (show W _ _ (.code (.region 36 _ true) :: _) _ _); with_reducible refine W_draw [(0, []), (1, [0]), (2, []), (3, []), (4, []), (5, []), (6, [5]), (7, []), (8, []), (9, [])] [0, 5] (by kernel_rfl) ?_) | (with_reducible (show W _ _ (.code (.region 45 _ true) :: _) _ _); with_reducible refine W_draw [(0, []), (1, []), (2, []), (8, []), (9, []), (10, []), (3, [0]), (4, []), (5, []), (6, []), (7, []), (11, []), (12, []), (13, []), (14, []), (15, [])] [0] (by kernel_rfl) ?_)
      (with_reducible (show CallK _ _ _ _ _ _ _ _ _ _ _)); with_reducible refine cx2 (list13 (hyS _ (hCB.trans hBF)) hI (by omega)) ?_
      rintro w1 G1 ⟨hG1, hL1⟩
      repeat' first | (with_reducible (show W _ _ _ _ _); with_reducible refine go2 ?_) | (with_reducible (show W _ _ _ _ _); with_reducible refine sg2 ?_ ?_ <;> intro _) | (with_reducible (show W _ _ (.code (.region 12 _ true) :: _) _ _); with_reducible refine W_draw [(0, []), (1, []), (2, []), (3, []), (4, []), (5, []), (6, []), (7, []), (8, [])] [] (by kernel_rfl) ?_) | (with_reducible (show W _ _ (.code (.region 36 _ true) :: _) _ _); with_reducible refine W_draw [(0, []), (1, [0]), (2, []), (3, []), (4, []), (5, []), (6, [5]), (7, []), (8, []), (9, [])] [0, 5] (by kernel_rfl) ?_) | (with_reducible (show W _ _ (.code (.region 45 _ true) :: _) _ _); with_reducible refine W_draw [(0, []), (1, []), (2, []), (8, []), (9, []), (10, []), (3, [0]), (4, []), (5, []), (6, []), (7, []), (11, []), (12, []), (13, []), (14, []), (15, [])] [0] (by kernel_rfl) ?_)
      (with_reducible (show CallK _ _ _ _ _ _ _ _ _ _ _)); with_reducible refine cx2 (exact13 hKin _) ?_
      rintro w2 G2 ⟨hG2, s2, l2, x2, rfl, hN2⟩
      have ho2 := hN2.one
      repeat' first | (with_reducible (show W _ _ _ _ _); with_reducible refine go2 ?_) | (with_reducible (show W _ _ _ _ _); with_reducible refine sg2 ?_ ?_ <;> intro _) | (with_reducible (show W _ _ (.code (.region 12 _ true) :: _) _ _); with_reducible refine W_draw [(0, []), (1, []), (2, []), (3, []), (4, []), (5, []), (6, []), (7, []), (8, [])] [] (by kernel_rfl) ?_) | (with_reducible (show W _ _ (.code (.region 36 _ true) :: _) _ _); with_reducible refine W_draw [(0, []), (1, [0]), (2, []), (3, []), (4, []), (5, []), (6, [5]), (7, []), (8, []), (9, [])] [0, 5] (by kernel_rfl) ?_) | (with_reducible (show W _ _ (.code (.region 45 _ true) :: _) _ _); with_reducible refine W_draw [(0, []), (1, []), (2, []), (8, []), (9, []), (10, []), (3, [0]), (4, []), (5, []), (6, []), (7, []), (11, []), (12, []), (13, []), (14, []), (15, [])] [0] (by kernel_rfl) ?_)
      have hLG := hL1.old hG2
      have hBG := hBF.trans (hG1.trans hG2)
      refine W_for (fun j ρ' C' => ∃ (k : Nat) (ls : MV), k + 1 + j = n ∧ Old G2 C' ∧ ρ' 23 = ls ∧ Nl G2 C' ls (bL (vx be) k) 1100 ∧ ρ' 4 = .ptr r 0 ∧ ρ' 11 = i64 (n : Int) ∧ ρ' 22 = w1) (n - 1) ?_ ?_
      · refine ⟨0, _, by omega, (Old.refl _).app _, rfl, ?_, h4, h11, rfl⟩
        exact Nl.one hget_new' (Nat.le_refl _) (Nat.le_refl _) (hN2.old ((Old.refl _).app _))
      clear h0 h4 h5 h6 h11
      clear hL1 hN2
      rintro j ρ' C' ⟨k, ls, hk, hC', h23, hL, h4, h11, h22⟩
      have hLC := hLG.old hC'
      have hBC' := hBG.trans hC'
      have cB' := hBC'.getO cB
      have hlw : lenV Tryd.prog 31 ls = some (i64 ((k + 1 : Nat) : Int)) := by
        obtain ⟨px, cx, cellx, hwe, hx1, hx2, hx3, hx4, hx5, hx6⟩ := id hL
        rw [hwe, bL_len]; simp [lenV, ty_31]
      by_cases hlt : ((k + 1 : Nat) : Int) < n
      · have hstep := bL_succ (vx be) k
        replace hstep : Hid2 _ := hstep
        repeat' first | (with_reducible (show W _ _ _ _ _); with_reducible refine go2 ?_) | (with_reducible (show W _ _ _ _ _); with_reducible refine sg2 ?_ ?_ <;> intro _) | (with_reducible (show W _ _ (.code (.region 12 _ true) :: _) _ _); with_reducible refine W_draw [(0, []), (1, []), (2, []), (3, []), (4, []), (5, []), (6, []), (7, []), (8, [])] [] (by kernel_rfl) ?_) | (with_reducible (show W _ _ (.code (.region 36 _ true) :: _) _ _); with_reducible refine W_draw [(0, []), (1, [0]), (2, []), (3, []), (4, []), (5, []), (6, [5]), (7, []), (8, []), (9, [])] [0, 5] (by kernel_rfl) ?_) | (with_reducible (show W _ _ (.code (.region 45 _ true) :: _) _ _); with_reducible refine W_draw [(0, []), (1, []), (2, []), (8, []), (9, []), (10, []), (3, [0]), (4, []), (5, []), (6, []), (7, []), (11, []), (12, []), (13, []), (14, []), (15, [])] [0] (by kernel_rfl) ?_)
        (with_reducible (show AppK _ _ _ _ _ _ _ _ _ _)); with_reducible refine app_nl hC' hL (by rw [bL_len]; omega) htyn ⟨by decide, rfl, by decide⟩ (Num.zero _ _) rfl rfl rfl ?_
        intro v' C9 hC9 hL9 _
        refine ⟨held_none _ _ _, ?_⟩
        rw [← show bL (vx be) (k + 1) = _ from hstep] at hL9
        repeat' first | (with_reducible (show W _ _ _ _ _); with_reducible refine go2 ?_) | (with_reducible (show W _ _ _ _ _); with_reducible refine sg2 ?_ ?_ <;> intro _) | (with_reducible (show W _ _ (.code (.region 12 _ true) :: _) _ _); with_reducible refine W_draw [(0, []), (1, []), (2, []), (3, []), (4, []), (5, []), (6, []), (7, []), (8, [])] [] (by kernel_rfl) ?_) | (with_reducible (show W _ _ (.code (.region 36 _ true) :: _) _ _); with_reducible refine W_draw [(0, []), (1, [0]), (2, []), (3, []), (4, []), (5, []), (6, [5]), (7, []), (8, []), (9, [])] [0, 5] (by kernel_rfl) ?_) | (with_reducible (show W _ _ (.code (.region 45 _ true) :: _) _ _); with_reducible refine W_draw [(0, []), (1, []), (2, []), (8, []), (9, []), (10, []), (3, [0]), (4, []), (5, []), (6, []), (7, []), (11, []), (12, []), (13, []), (14, []), (15, [])] [0] (by kernel_rfl) ?_)
        all_goals first
          | exact ⟨j - 1, by omega, k + 1, _, by omega, hC9, rfl, hL9, rfl⟩
          | exact ⟨j - 1, by omega, k + 1, _, by omega, rfl, hL9⟩
          | trace_state
      · have hkn : k = n - 1 := by omega
        rw [hkn] at hL
        clear hkn
        have e4 : IntKind.i64.wrap ((n : Int) + 4) = (n : Int) + 4 := wrap_i64 (by omega)
        have e5 : IntKind.i64.wrap (32 * ((n : Int) + 4)) = 32 * ((n : Int) + 4) := wrap_i64 (by omega)
        have hvl2 : (genV xs).length = n := (genV_len (by omega)).trans hn
        have ht1 := turned13 (hVB C' hBC') (genV_in xs) (genT_in xs) hLC.any (by rw [List.length_map, hvl2, hn]) (by omega) (by decide)
        rw [hvl2] at ht1
        repeat' first | (with_reducible (show W _ _ _ _ _); with_reducible refine go2 ?_) | (with_reducible (show W _ _ _ _ _); with_reducible refine sg2 ?_ ?_ <;> intro _) | (with_reducible (show W _ _ (.code (.region 12 _ true) :: _) _ _); with_reducible refine W_draw [(0, []), (1, []), (2, []), (3, []), (4, []), (5, []), (6, []), (7, []), (8, [])] [] (by kernel_rfl) ?_) | (with_reducible (show W _ _ (.code (.region 36 _ true) :: _) _ _); with_reducible refine W_draw [(0, []), (1, [0]), (2, []), (3, []), (4, []), (5, []), (6, [5]), (7, []), (8, []), (9, [])] [0, 5] (by kernel_rfl) ?_) | (with_reducible (show W _ _ (.code (.region 45 _ true) :: _) _ _); with_reducible refine W_draw [(0, []), (1, []), (2, []), (8, []), (9, []), (10, []), (3, [0]), (4, []), (5, []), (6, []), (7, []), (11, []), (12, []), (13, []), (14, []), (15, [])] [0] (by kernel_rfl) ?_)
        (with_reducible (show CallK _ _ _ _ _ _ _ _ _ _ _)); with_reducible refine cx2 ht1 ?_
        rintro w4 G4 ⟨hG4, hL4⟩
        have hLl := hLC.any.old hG4
        have hdt2 := dot13 hLl hLl (Nat.le_refl _) (by rw [List.length_map]; omega) (by decide) (by decide)
        rw [List.length_map, hn] at hdt2
        repeat' first | (with_reducible (show W _ _ _ _ _); with_reducible refine go2 ?_) | (with_reducible (show W _ _ _ _ _); with_reducible refine sg2 ?_ ?_ <;> intro _) | (with_reducible (show W _ _ (.code (.region 12 _ true) :: _) _ _); with_reducible refine W_draw [(0, []), (1, []), (2, []), (3, []), (4, []), (5, []), (6, []), (7, []), (8, [])] [] (by kernel_rfl) ?_) | (with_reducible (show W _ _ (.code (.region 36 _ true) :: _) _ _); with_reducible refine W_draw [(0, []), (1, [0]), (2, []), (3, []), (4, []), (5, []), (6, [5]), (7, []), (8, []), (9, [])] [0, 5] (by kernel_rfl) ?_) | (with_reducible (show W _ _ (.code (.region 45 _ true) :: _) _ _); with_reducible refine W_draw [(0, []), (1, []), (2, []), (8, []), (9, []), (10, []), (3, [0]), (4, []), (5, []), (6, []), (7, []), (11, []), (12, []), (13, []), (14, []), (15, [])] [0] (by kernel_rfl) ?_)
        (with_reducible (show CallK _ _ _ _ _ _ _ _ _ _ _)); with_reducible refine cx2 hdt2 ?_
        rintro w5 G5 ⟨hG5, s5, l5, x5, rfl, hN5⟩
        have hne := near13 ((hL4.any).old hG5) (((hL.any.old hG4).old hG5).mono (show (1100 : Int) ≤ 1100 + 5000 by decide)) (by rw [turnR_len, bL_len]; omega) (by rw [turnR_len]; omega) (units := 32 * ((n : Int) + 4)) (by omega) hN5 (by decide) (by decide)
        have hres : nearB (turnR (genV xs) (genT xs) (xs.map vx) n) (bL (vx be) (n - 1)) (32 * ((n : Int) + 4)) (dotR (xs.map vx) (xs.map vx) n) = true := by
          simp [nearB, hgl]
        rw [hres] at hne
        repeat' first | (with_reducible (show W _ _ _ _ _); with_reducible refine go2 ?_) | (with_reducible (show W _ _ _ _ _); with_reducible refine sg2 ?_ ?_ <;> intro _) | (with_reducible (show CallK _ _ _ _ _ _ _ _ _ _ _); with_reducible refine ce2 (hne) ?_) | (with_reducible (show W _ _ (.code (.region 12 _ true) :: _) _ _); with_reducible refine W_draw [(0, []), (1, []), (2, []), (3, []), (4, []), (5, []), (6, []), (7, []), (8, [])] [] (by kernel_rfl) ?_) | (with_reducible (show W _ _ (.code (.region 36 _ true) :: _) _ _); with_reducible refine W_draw [(0, []), (1, [0]), (2, []), (3, []), (4, []), (5, []), (6, [5]), (7, []), (8, []), (9, [])] [0, 5] (by kernel_rfl) ?_) | (with_reducible (show W _ _ (.code (.region 45 _ true) :: _) _ _); with_reducible refine W_draw [(0, []), (1, []), (2, []), (8, []), (9, []), (10, []), (3, [0]), (4, []), (5, []), (6, []), (7, []), (11, []), (12, []), (13, []), (14, []), (15, [])] [0] (by kernel_rfl) ?_)
        all_goals first
          | exact ((hOC.trans hCB).trans (hBC'.trans (hG4.trans hG5))).jk
          | trace_state
--ENDTAIL
  all_goals (
    have hB : genB xs = true := by unfold genB; simp_all
    have hTt := genT_triv hB
    have hKt := genK_triv hB
    have hV0 : ∀ i, 0 < i → (genV xs).getD i 0 = 0 := genV_triv hB
    have cB0 := cB
    rw [hTt] at cB
    have ha0 : absM 0 = 0 := by decide
    have hvl : (genV xs).length = n := (genV_len (by omega)).trans hn
    have hf0 : (genK xs).2 = 0 := by rw [hKt]
    have hb0 : (genK xs).1 = xs.getD 0 0 := by rw [hKt]
    have hBF : Old B B := Old.refl B
    have hldx : loadV Tryd.prog 24 (.ptr p 0) B = some (u64 (xs.getD 0 0)) := hyB.ld (P := Tryd.prog) (t := 24) (j := 0) (by rw [ty_24]) (by rw [ty_24]) (by omega)
    have h6' : ρ 6 = u8 0 := by rw [h6, hf0]
    have h5' : ρ 5 = u64 (xs.getD 0 0) := by rw [h5, hb0]
    clear h5 h6 cr
    repeat' first | (with_reducible (show W _ _ _ _ _); with_reducible refine go2 ?_) | (with_reducible (show W _ _ _ _ _); with_reducible refine sg2 ?_ ?_ <;> intro _) | (with_reducible (show W _ _ (.code (.region 12 _ true) :: _) _ _); with_reducible refine W_draw [(0, []), (1, []), (2, []), (3, []), (4, []), (5, []), (6, []), (7, []), (8, [])] [] (by kernel_rfl) ?_) | (with_reducible (show W _ _ (.code (.region 36 _ true) :: _) _ _); with_reducible refine W_draw [(0, []), (1, [0]), (2, []), (3, []), (4, []), (5, []), (6, [5]), (7, []), (8, []), (9, [])] [0, 5] (by kernel_rfl) ?_) | (with_reducible (show W _ _ (.code (.region 45 _ true) :: _) _ _); with_reducible refine W_draw [(0, []), (1, []), (2, []), (8, []), (9, []), (10, []), (3, [0]), (4, []), (5, []), (6, []), (7, []), (11, []), (12, []), (13, []), (14, []), (15, [])] [0] (by kernel_rfl) ?_)
    refine W_for (fun j ρ' C' => ∃ k : Nat, k + j = n - 1 ∧ C' = B ∧ ρ' 0 = .slice p 0 n c 1 ∧ ρ' 4 = .ptr r 0 ∧ ρ' 5 = u64 (xs.getD 0 0) ∧ ρ' 6 = u8 0 ∧ ρ' 11 = i64 (n : Int) ∧ ρ' 120 = .slice q (if w = 1 then 0 else 1) (n - 1) (w - 1) 1 ∧ ρ' 121 = i64 ((n - 1 : Nat) : Int) ∧ ρ' 122 = i64 (k : Int)) (n - 1) ?_ ?_
    · exact ⟨0, by omega, rfl, h0, h4, h5', h6', rfl, rfl, rfl, rfl⟩
    clear h0 h4 h5' h6' h7 h59 h60 h61 hlt hall hk k j
    rintro j ρ' C' ⟨k, hk, rfl, h0, h4, h5, h6, h11, h120, h121, h122⟩
    by_cases hlt : (k : Int) < ((n - 1 : Nat) : Int)
    · have g2 := hv1.ia (j := k) (by rw [List.length_tail, hvl]; omega) 8 (some [.int .u64 0]) true .i64
      have g4 := hv1.ld (P := Tryd.prog) (t := 24) (j := k) (by rw [ty_24]) (by rw [ty_24]) (by rw [List.length_tail, hvl]; omega)
      rw [tail_get, hV0 _ (by omega)] at g4
      have e2 := e1' k (by omega)
      repeat' first | (with_reducible (show W _ _ _ _ _); with_reducible refine go2 ?_) | (with_reducible (show W _ _ _ _ _); with_reducible refine sg2 ?_ ?_ <;> intro _) | (with_reducible (show CallK _ _ _ _ _ _ _ _ _ _ _); with_reducible refine ce2 (abs_spec _ _) ?_) | (with_reducible (show W _ _ (.code (.region 12 _ true) :: _) _ _); with_reducible refine W_draw [(0, []), (1, []), (2, []), (3, []), (4, []), (5, []), (6, []), (7, []), (8, [])] [] (by kernel_rfl) ?_) | (with_reducible (show W _ _ (.code (.region 36 _ true) :: _) _ _); with_reducible refine W_draw [(0, []), (1, [0]), (2, []), (3, []), (4, []), (5, []), (6, [5]), (7, []), (8, []), (9, [])] [0, 5] (by kernel_rfl) ?_) | (with_reducible (show W _ _ (.code (.region 45 _ true) :: _) _ _); with_reducible refine W_draw [(0, []), (1, []), (2, []), (8, []), (9, []), (10, []), (3, [0]), (4, []), (5, []), (6, []), (7, []), (11, []), (12, []), (13, []), (14, []), (15, [])] [0] (by kernel_rfl) ?_)
      all_goals first
        | exact ⟨j - 1, by omega, k + 1, by omega, rfl⟩
        | trace_state
    · repeat' first | (with_reducible (show W _ _ _ _ _); with_reducible refine go2 ?_) | (with_reducible (show W _ _ _ _ _); with_reducible refine sg2 ?_ ?_ <;> intro _) | (with_reducible (show CallK _ _ _ _ _ _ _ _ _ _ _); with_reducible refine ce2 (abs_spec _ _) ?_) | (with_reducible (show W _ _ (.code (.region 12 _ true) :: _) _ _); with_reducible refine W_draw [(0, []), (1, []), (2, []), (3, []), (4, []), (5, []), (6, []), (7, []), (8, [])] [] (by kernel_rfl) ?_) | (with_reducible (show W _ _ (.code (.region 36 _ true) :: _) _ _); with_reducible refine W_draw [(0, []), (1, [0]), (2, []), (3, []), (4, []), (5, []), (6, [5]), (7, []), (8, []), (9, [])] [0, 5] (by kernel_rfl) ?_) | (with_reducible (show W _ _ (.code (.region 45 _ true) :: _) _ _); with_reducible refine W_draw [(0, []), (1, []), (2, []), (8, []), (9, []), (10, []), (3, [0]), (4, []), (5, []), (6, []), (7, []), (11, []), (12, []), (13, []), (14, []), (15, [])] [0] (by kernel_rfl) ?_)
      have cB := cB0
      clear cB0
      rw [← hb0] at h5
      rw [← hf0] at h6
      clear hTt
--BEGINTAIL2
      (with_reducible refine sc2 ?_ ?_ <;> intro hc6)
      · repeat' first | (with_reducible (show W _ _ _ _ _); with_reducible refine go2 ?_) | (with_reducible (show W _ _ _ _ _); with_reducible refine sg2 ?_ ?_ <;> intro _) | (with_reducible (show W _ _ (.code (.region 12 _ true) :: _) _ _); with_reducible refine W_draw [(0, []), (1, []), (2, []), (3, []), (4, []), (5, []), (6, []), (7, []), (8, [])] [] (by kernel_rfl) ?_) | (with_reducible (show W _ _ (.code (.region 36 _ true) :: _) _ _); with_reducible refine W_draw [(0, []), (1, [0]), (2, []), (3, []), (4, []), (5, []), (6, [5]), (7, []), (8, []), (9, [])] [0, 5] (by kernel_rfl) ?_) | (with_reducible (show W _ _ (.code (.region 45 _ true) :: _) _ _); with_reducible refine W_draw [(0, []), (1, []), (2, []), (8, []), (9, []), (10, []), (3, [0]), (4, []), (5, []), (6, []), (7, []), (11, []), (12, []), (13, []), (14, []), (15, [])] [0] (by kernel_rfl) ?_)
        exact ((hOC.trans hCB).trans hBF).jk
      have hf : (genK xs).2 = 0 ∨ (genK xs).2 = 1 := by
        first
          | exact .inl hf0
          | (rcases genK_fl hx (by omega) with h | h | h | h | h
             · exact .inl h
             · exact .inr h
             all_goals (rw [h] at hc6; exact absurd hc6 (by decide)))
      have hgl := gens_law hx (by omega) (by omega) hf
      have hKin := genK_in hI
      rw [hn] at hgl
      obtain ⟨be, hbe⟩ : ∃ be, (genK xs).1 = be := ⟨_, rfl⟩
      rw [hbe] at hgl hKin h5
      clear hc6 hf
      have hb1 := bsV_num
      have htyn : (ty Tryd.prog 31).k = .slice 3 40 (some [.bool false, .slice none 0 0, .int .i64 0]) false := by rw [ty_31]
      repeat' first | (with_reducible (show W _ _ _ _ _); with_reducible refine go2 ?_) | (with_reducible (show W _ _ _ _ _); with_reducible refine sg2 ?_ ?_ <;> intro _) | (with_reducible (show W _ _ (.code (.region 12 _ true) :: _) _ _); with_reducible refine W_draw [(0, []), (1, []), (2, []), (3, []), (4, []), (5, []), (6, []), (7, []), (8, [])] [] (by kernel_rfl) ?_) | (with_reducible (show W _ _ (.code (.region 36 _ true) :: _) _ _); with_reducible refine W_draw [(0, []), (1, [0]), (2, []), (3, []), (4, []), (5, []), (6, [5]), (7, []), (8, []), (9, [])] [0, 5] (by kernel_rfl) ?_) | (with_reducible (show W _ _ (.code (.region 45 _ true) :: _) _ _); with_reducible refine W_draw [(0, []), (1, []), (2, []), (8, []), (9, []), (10, []), (3, [0]), (4, []), (5, []), (6, []), (7, []), (11, []), (12, []), (13, []), (14, []), (15, [])] [0] (by kernel_rfl) ?_)
      (with_reducible (show CallK _ _ _ _ _ _ _ _ _ _ _)); with_reducible refine cx2 (list13 (hyS _ (hCB.trans hBF)) hI (by omega)) ?_
      rintro w1 G1 ⟨hG1, hL1⟩
      repeat' first | (with_reducible (show W _ _ _ _ _); with_reducible refine go2 ?_) | (with_reducible (show W _ _ _ _ _); with_reducible refine sg2 ?_ ?_ <;> intro _) | (with_reducible (show W _ _ (.code (.region 12 _ true) :: _) _ _); with_reducible refine W_draw [(0, []), (1, []), (2, []), (3, []), (4, []), (5, []), (6, []), (7, []), (8, [])] [] (by kernel_rfl) ?_) | (with_reducible (show W _ _ (.code (.region 36 _ true) :: _) _ _); with_reducible refine W_draw [(0, []), (1, [0]), (2, []), (3, []), (4, []), (5, []), (6, [5]), (7, []), (8, []), (9, [])] [0, 5] (by kernel_rfl) ?_) | (with_reducible (show W _ _ (.code (.region 45 _ true) :: _) _ _); with_reducible refine W_draw [(0, []), (1, []), (2, []), (8, []), (9, []), (10, []), (3, [0]), (4, []), (5, []), (6, []), (7, []), (11, []), (12, []), (13, []), (14, []), (15, [])] [0] (by kernel_rfl) ?_)
      (with_reducible (show CallK _ _ _ _ _ _ _ _ _ _ _)); with_reducible refine cx2 (exact13 hKin _) ?_
      rintro w2 G2 ⟨hG2, s2, l2, x2, rfl, hN2⟩
      have ho2 := hN2.one
      repeat' first | (with_reducible (show W _ _ _ _ _); with_reducible refine go2 ?_) | (with_reducible (show W _ _ _ _ _); with_reducible refine sg2 ?_ ?_ <;> intro _) | (with_reducible (show W _ _ (.code (.region 12 _ true) :: _) _ _); with_reducible refine W_draw [(0, []), (1, []), (2, []), (3, []), (4, []), (5, []), (6, []), (7, []), (8, [])] [] (by kernel_rfl) ?_) | (with_reducible (show W _ _ (.code (.region 36 _ true) :: _) _ _); with_reducible refine W_draw [(0, []), (1, [0]), (2, []), (3, []), (4, []), (5, []), (6, [5]), (7, []), (8, []), (9, [])] [0, 5] (by kernel_rfl) ?_) | (with_reducible (show W _ _ (.code (.region 45 _ true) :: _) _ _); with_reducible refine W_draw [(0, []), (1, []), (2, []), (8, []), (9, []), (10, []), (3, [0]), (4, []), (5, []), (6, []), (7, []), (11, []), (12, []), (13, []), (14, []), (15, [])] [0] (by kernel_rfl) ?_)
      have hLG := hL1.old hG2
      have hBG := hBF.trans (hG1.trans hG2)
      refine W_for (fun j ρ' C' => ∃ (k : Nat) (ls : MV), k + 1 + j = n ∧ Old G2 C' ∧ ρ' 23 = ls ∧ Nl G2 C' ls (bL (vx be) k) 1100 ∧ ρ' 4 = .ptr r 0 ∧ ρ' 11 = i64 (n : Int) ∧ ρ' 22 = w1) (n - 1) ?_ ?_
      · refine ⟨0, _, by omega, (Old.refl _).app _, rfl, ?_, h4, h11, rfl⟩
        exact Nl.one hget_new' (Nat.le_refl _) (Nat.le_refl _) (hN2.old ((Old.refl _).app _))
      clear h0 h4 h5 h6 h11
      clear hL1 hN2
      rintro j ρ' C' ⟨k, ls, hk, hC', h23, hL, h4, h11, h22⟩
      have hLC := hLG.old hC'
      have hBC' := hBG.trans hC'
      have cB' := hBC'.getO cB
      have hlw : lenV Tryd.prog 31 ls = some (i64 ((k + 1 : Nat) : Int)) := by
        obtain ⟨px, cx, cellx, hwe, hx1, hx2, hx3, hx4, hx5, hx6⟩ := id hL
        rw [hwe, bL_len]; simp [lenV, ty_31]
      by_cases hlt : ((k + 1 : Nat) : Int) < n
      · have hstep := bL_succ (vx be) k
        replace hstep : Hid2 _ := hstep
        repeat' first | (with_reducible (show W _ _ _ _ _); with_reducible refine go2 ?_) | (with_reducible (show W _ _ _ _ _); with_reducible refine sg2 ?_ ?_ <;> intro _) | (with_reducible (show W _ _ (.code (.region 12 _ true) :: _) _ _); with_reducible refine W_draw [(0, []), (1, []), (2, []), (3, []), (4, []), (5, []), (6, []), (7, []), (8, [])] [] (by kernel_rfl) ?_) | (with_reducible (show W _ _ (.code (.region 36 _ true) :: _) _ _); with_reducible refine W_draw [(0, []), (1, [0]), (2, []), (3, []), (4, []), (5, []), (6, [5]), (7, []), (8, []), (9, [])] [0, 5] (by kernel_rfl) ?_) | (with_reducible (show W _ _ (.code (.region 45 _ true) :: _) _ _); with_reducible refine W_draw [(0, []), (1, []), (2, []), (8, []), (9, []), (10, []), (3, [0]), (4, []), (5, []), (6, []), (7, []), (11, []), (12, []), (13, []), (14, []), (15, [])] [0] (by kernel_rfl) ?_)
        (with_reducible (show AppK _ _ _ _ _ _ _ _ _ _)); with_reducible refine app_nl hC' hL (by rw [bL_len]; omega) htyn ⟨by decide, rfl, by decide⟩ (Num.zero _ _) rfl rfl rfl ?_
        intro v' C9 hC9 hL9 _
        refine ⟨held_none _ _ _, ?_⟩
        rw [← show bL (vx be) (k + 1) = _ from hstep] at hL9
        repeat' first | (with_reducible (show W _ _ _ _ _); with_reducible refine go2 ?_) | (with_reducible (show W _ _ _ _ _); with_reducible refine sg2 ?_ ?_ <;> intro _) | (with_reducible (show W _ _ (.code (.region 12 _ true) :: _) _ _); with_reducible refine W_draw [(0, []), (1, []), (2, []), (3, []), (4, []), (5, []), (6, []), (7, []), (8, [])] [] (by kernel_rfl) ?_) | (with_reducible (show W _ _ (.code (.region 36 _ true) :: _) _ _); with_reducible refine W_draw [(0, []), (1, [0]), (2, []), (3, []), (4, []), (5, []), (6, [5]), (7, []), (8, []), (9, [])] [0, 5] (by kernel_rfl) ?_) | (with_reducible (show W _ _ (.code (.region 45 _ true) :: _) _ _); with_reducible refine W_draw [(0, []), (1, []), (2, []), (8, []), (9, []), (10, []), (3, [0]), (4, []), (5, []), (6, []), (7, []), (11, []), (12, []), (13, []), (14, []), (15, [])] [0] (by kernel_rfl) ?_)
        all_goals first
          | exact ⟨j - 1, by omega, k + 1, _, by omega, hC9, rfl, hL9, rfl⟩
          | exact ⟨j - 1, by omega, k + 1, _, by omega, rfl, hL9⟩
          | trace_state
      · have hkn : k = n - 1 := by omega
        rw [hkn] at hL
        clear hkn
        have e4 : IntKind.i64.wrap ((n : Int) + 4) = (n : Int) + 4 := wrap_i64 (by omega)
        have e5 : IntKind.i64.wrap (32 * ((n : Int) + 4)) = 32 * ((n : Int) + 4) := wrap_i64 (by omega)
        have hvl2 : (genV xs).length = n := (genV_len (by omega)).trans hn
        have ht1 := turned13 (hVB C' hBC') (genV_in xs) (genT_in xs) hLC.any (by rw [List.length_map, hvl2, hn]) (by omega) (by decide)
        rw [hvl2] at ht1
        repeat' first | (with_reducible (show W _ _ _ _ _); with_reducible refine go2 ?_) | (with_reducible (show W _ _ _ _ _); with_reducible refine sg2 ?_ ?_ <;> intro _) | (with_reducible (show W _ _ (.code (.region 12 _ true) :: _) _ _); with_reducible refine W_draw [(0, []), (1, []), (2, []), (3, []), (4, []), (5, []), (6, []), (7, []), (8, [])] [] (by kernel_rfl) ?_) | (with_reducible (show W _ _ (.code (.region 36 _ true) :: _) _ _); with_reducible refine W_draw [(0, []), (1, [0]), (2, []), (3, []), (4, []), (5, []), (6, [5]), (7, []), (8, []), (9, [])] [0, 5] (by kernel_rfl) ?_) | (with_reducible (show W _ _ (.code (.region 45 _ true) :: _) _ _); with_reducible refine W_draw [(0, []), (1, []), (2, []), (8, []), (9, []), (10, []), (3, [0]), (4, []), (5, []), (6, []), (7, []), (11, []), (12, []), (13, []), (14, []), (15, [])] [0] (by kernel_rfl) ?_)
        (with_reducible (show CallK _ _ _ _ _ _ _ _ _ _ _)); with_reducible refine cx2 ht1 ?_
        rintro w4 G4 ⟨hG4, hL4⟩
        have hLl := hLC.any.old hG4
        have hdt2 := dot13 hLl hLl (Nat.le_refl _) (by rw [List.length_map]; omega) (by decide) (by decide)
        rw [List.length_map, hn] at hdt2
        repeat' first | (with_reducible (show W _ _ _ _ _); with_reducible refine go2 ?_) | (with_reducible (show W _ _ _ _ _); with_reducible refine sg2 ?_ ?_ <;> intro _) | (with_reducible (show W _ _ (.code (.region 12 _ true) :: _) _ _); with_reducible refine W_draw [(0, []), (1, []), (2, []), (3, []), (4, []), (5, []), (6, []), (7, []), (8, [])] [] (by kernel_rfl) ?_) | (with_reducible (show W _ _ (.code (.region 36 _ true) :: _) _ _); with_reducible refine W_draw [(0, []), (1, [0]), (2, []), (3, []), (4, []), (5, []), (6, [5]), (7, []), (8, []), (9, [])] [0, 5] (by kernel_rfl) ?_) | (with_reducible (show W _ _ (.code (.region 45 _ true) :: _) _ _); with_reducible refine W_draw [(0, []), (1, []), (2, []), (8, []), (9, []), (10, []), (3, [0]), (4, []), (5, []), (6, []), (7, []), (11, []), (12, []), (13, []), (14, []), (15, [])] [0] (by kernel_rfl) ?_)
        (with_reducible (show CallK _ _ _ _ _ _ _ _ _ _ _)); with_reducible refine cx2 hdt2 ?_
        rintro w5 G5 ⟨hG5, s5, l5, x5, rfl, hN5⟩
        have hne := near13 ((hL4.any).old hG5) (((hL.any.old hG4).old hG5).mono (show (1100 : Int) ≤ 1100 + 5000 by decide)) (by rw [turnR_len, bL_len]; omega) (by rw [turnR_len]; omega) (units := 32 * ((n : Int) + 4)) (by omega) hN5 (by decide) (by decide)
        have hres : nearB (turnR (genV xs) (genT xs) (xs.map vx) n) (bL (vx be) (n - 1)) (32 * ((n : Int) + 4)) (dotR (xs.map vx) (xs.map vx) n) = true := by
          simp [nearB, hgl]
        rw [hres] at hne
        repeat' first | (with_reducible (show W _ _ _ _ _); with_reducible refine go2 ?_) | (with_reducible (show W _ _ _ _ _); with_reducible refine sg2 ?_ ?_ <;> intro _) | (with_reducible (show CallK _ _ _ _ _ _ _ _ _ _ _); with_reducible refine ce2 (hne) ?_) | (with_reducible (show W _ _ (.code (.region 12 _ true) :: _) _ _); with_reducible refine W_draw [(0, []), (1, []), (2, []), (3, []), (4, []), (5, []), (6, []), (7, []), (8, [])] [] (by kernel_rfl) ?_) | (with_reducible (show W _ _ (.code (.region 36 _ true) :: _) _ _); with_reducible refine W_draw [(0, []), (1, [0]), (2, []), (3, []), (4, []), (5, []), (6, [5]), (7, []), (8, []), (9, [])] [0, 5] (by kernel_rfl) ?_) | (with_reducible (show W _ _ (.code (.region 45 _ true) :: _) _ _); with_reducible refine W_draw [(0, []), (1, []), (2, []), (8, []), (9, []), (10, []), (3, [0]), (4, []), (5, []), (6, []), (7, []), (11, []), (12, []), (13, []), (14, []), (15, [])] [0] (by kernel_rfl) ?_)
        all_goals first
          | exact ((hOC.trans hCB).trans (hBC'.trans (hG4.trans hG5))).jk
          | trace_state)
end Go.Proofs.YtcikcinkjbbnhaaDoor.M
