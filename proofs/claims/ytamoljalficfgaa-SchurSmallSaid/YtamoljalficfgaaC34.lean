/- Quotients. -/
import Derived.Test.YtamoljalficfgaaC33
set_option linter.unusedSimpArgs false
set_option linter.unusedVariables false
set_option maxRecDepth 10000
set_option maxHeartbeats 8000000
namespace Go.Proofs.Ytamoljalficfgaa.M
open Go Go.Proofs

theorem rem_in {U Y : Int} (hU : InU U) (hY : 2147483648 ≤ Y ∧ Y < 4294967296) : 0 ≤ IntKind.u64.wrap (U - IntKind.u64.wrap (IntKind.u64.wrap (U.tdiv Y) * Y)) ∧ IntKind.u64.wrap (U - IntKind.u64.wrap (IntKind.u64.wrap (U.tdiv Y) * Y)) < 4294967296 := by
  have h1 := hU.1
  have h2 := hU.2
  rw [Int.tdiv_eq_ediv_of_nonneg h1]
  have hm := Int.emod_nonneg U (show Y ≠ 0 by omega)
  have hm2 := Int.emod_lt_of_pos U (show 0 < Y by omega)
  have he := Int.mul_ediv_add_emod U Y
  have hd : 0 ≤ U / Y := Int.ediv_nonneg h1 (by omega)
  have hz : 0 ≤ Y * (U / Y) := Int.mul_nonneg (by omega) hd
  have hd2 : U / Y ≤ U := Int.ediv_le_self _ h1
  rw [wrap_u64 (U / Y), Int.emod_eq_of_lt hd (by omega), Int.mul_comm (U / Y) Y]
  generalize Y * (U / Y) = Z at he hz
  rw [wrap_u64 Z, Int.emod_eq_of_lt (by omega) (by omega), wrap_u64, Int.emod_eq_of_lt (by omega) (by omega)]
  omega
def shN (y : Int) : Int := IntKind.u64.wrap (IntKind.i64.wrap (64 - lenM y))
def ynM (y : Int) : Int := shrV .u64 (shlV .u64 y (shN y)) 32
theorem div64_ex {hi lo y : Int} (hhi : InU hi) (hlo : InU lo) (hy : InU y) (hlt : hi < y) (H : MH) : Spec Try.prog 97 [u64 hi, u64 lo, u64 y] H fun v H' => ∃ t : Int × Int, (InU t.1 ∧ InU t.2) ∧ v = .tup [u64 t.1, u64 t.2] ∧ H' = H := by
  have h1 := hhi.1
  have y0 : (y = 0) = False := eq_false (by omega)
  have yl : (y ≤ hi) = False := eq_false (by omega)
  have hshr : ∀ x, ¬ IntKind.u64.wrap x < 0 := fun x => by have := (wrap_inU x).1; omega
  have hn := norm_in hy (by omega)
  have hq : (shrV .u64 (shlV .u64 y (IntKind.u64.wrap (IntKind.i64.wrap (64 - lenM y)))) 32 = 0) = False := eq_false (by omega)
  have hin1 : InU (shlV .u64 y (IntKind.u64.wrap (IntKind.i64.wrap (64 - lenM y)))) := shl_inU _ _
  refine Spec.scalarE (G := fun t : Int × Int => InU t.1 ∧ InU t.2) (r := fun t : Int × Int => .tup [u64 t.1, u64 t.2]) (enterS Try.func97 [.tmp 6, .tmp 7] ?_)
  repeat' first | (with_reducible (show W _ _ _ _ _); with_reducible refine go2 ?_) | (with_reducible (show W _ _ _ _ _); with_reducible refine sg2 ?_ ?_ <;> intro _) | (with_reducible (show W _ _ _ _ _); with_reducible refine sc2 ?_ ?_ <;> intro _) | (with_reducible (show CallK _ _ _ _ _ _ _ _ _ _ _); with_reducible refine ce2 (lz_spec hy _) ?_) | (with_reducible (show W _ _ (.code (.region 6 _ true) :: _) _ _); with_reducible refine W_draw [(0, []), (1, []), (2, []), (3, []), (4, []), (5, []), (6, []), (7, [])] [] (by kernel_rfl) ?_)
  · have h2 := hlo.1
    have h3 := hlo.2
    have h4 := hy.2
    have ht : InU (lo.tmod y) := by
      rw [Int.tmod_eq_emod_of_nonneg h2]
      exact ⟨Int.emod_nonneg _ (by omega), by have := Int.emod_lt_of_pos lo (show 0 < y by omega); omega⟩
    exact ⟨(IntKind.u64.wrap (lo.tdiv y), lo.tmod y), ⟨wrap_inU _, ht⟩, rfl⟩
  have hnY : 2147483648 ≤ ynM y ∧ ynM y < 4294967296 := hn
  have hqY : (ynM y = 0) = False := hq
  have hS : ¬ shN y < 0 := hshr _
  have hrem : ∀ U, InU U → 0 ≤ IntKind.u64.wrap (U - IntKind.u64.wrap (IntKind.u64.wrap (U.tdiv (ynM y)) * ynM y)) ∧ IntKind.u64.wrap (U - IntKind.u64.wrap (IntKind.u64.wrap (U.tdiv (ynM y)) * ynM y)) < 4294967296 ∧
      4294967296 ≤ IntKind.u64.wrap (U - IntKind.u64.wrap (IntKind.u64.wrap (U.tdiv (ynM y)) * ynM y)) + ((2 : Nat) : Int) * 2147483648 := fun U hU => by
    have := rem_in hU hnY
    omega
  refine W_for (fun j ρ H' => ∃ (y' yn0 un32 un1 un0 q rh : Int), 0 ≤ rh ∧ rh < 4294967296 ∧ 4294967296 ≤ rh + j * 2147483648 ∧ ρ 2 = u64 y' ∧ ρ 8 = u64 (shN y) ∧ ρ 9 = u64 (ynM y) ∧ ρ 10 = u64 yn0 ∧ ρ 11 = u64 un32 ∧ ρ 13 = u64 un1 ∧ ρ 14 = u64 un0 ∧ ρ 15 = u64 q ∧ ρ 16 = u64 rh ∧ H' = H) 2 ?_ ?_
  · exact ⟨_, _, _, _, _, _, _, (hrem _ (bits_inU _ _ _)).1, (hrem _ (bits_inU _ _ _)).2.1, (hrem _ (bits_inU _ _ _)).2.2, rfl, rfl, rfl, rfl, rfl, rfl, rfl, rfl, rfl, rfl⟩
  clear hn hq hin1
  rintro j ρ H' ⟨y', yn0, un32, un1, un0, q, rh, hr0, hr1, hr2, h2, h8, h9, h10, h11, h13, h14, h15, h16, rfl⟩
  have hY1 := hnY.1
  have hY2 := hnY.2
  have ew : IntKind.u64.wrap (rh + ynM y) = rh + ynM y := by rw [wrap_u64]; omega
  repeat' first | (with_reducible (show W _ _ _ _ _); with_reducible refine go2 ?_) | (with_reducible (show W _ _ _ _ _); with_reducible refine sg2 ?_ ?_ <;> intro _) | (with_reducible (show W _ _ _ _ _); with_reducible refine sc2 ?_ ?_ <;> intro _) | (with_reducible (show W _ _ (.code (.region 6 _ true) :: _) _ _); with_reducible refine W_draw [(0, []), (1, []), (2, []), (3, []), (4, []), (5, []), (6, []), (7, [])] [] (by kernel_rfl) ?_)
  all_goals first
    | (refine ⟨j - 1, by omega, y', yn0, un32, un1, un0, IntKind.u64.wrap (q - 1), rh + ynM y, by omega, by omega, by omega, ?_⟩; simp; done)
    | skip
  all_goals first
    | refine W_for (fun j ρ H'' => ∃ (y' yn0 un0 q u21 q0 rh : Int), 0 ≤ rh ∧ rh < 4294967296 ∧ 4294967296 ≤ rh + j * 2147483648 ∧ ρ 2 = u64 y' ∧ ρ 8 = u64 (shN y) ∧ ρ 9 = u64 (ynM y) ∧ ρ 10 = u64 yn0 ∧ ρ 14 = u64 un0 ∧ ρ 15 = u64 q ∧ ρ 17 = u64 u21 ∧ ρ 18 = u64 q0 ∧ ρ 16 = u64 rh ∧ H'' = H') 2 ⟨_, _, _, _, _, _, _, (hrem _ (wrap_inU _)).1, (hrem _ (wrap_inU _)).2.1, (hrem _ (wrap_inU _)).2.2, h2, h8, h9, h10, h14, h15, rfl, rfl, rfl, rfl⟩ ?_
    | refine W_for (fun j ρ H'' => ∃ (y' yn0 un0 q u21 q0 rh : Int), 0 ≤ rh ∧ rh < 4294967296 ∧ 4294967296 ≤ rh + j * 2147483648 ∧ ρ 2 = u64 y' ∧ ρ 8 = u64 (shN y) ∧ ρ 9 = u64 (ynM y) ∧ ρ 10 = u64 yn0 ∧ ρ 14 = u64 un0 ∧ ρ 15 = u64 q ∧ ρ 17 = u64 u21 ∧ ρ 18 = u64 q0 ∧ ρ 16 = u64 rh ∧ H'' = H') 2 ⟨_, _, _, _, _, _, _, (hrem _ (wrap_inU _)).1, (hrem _ (wrap_inU _)).2.1, (hrem _ (wrap_inU _)).2.2, h2, h8, h9, h10, h14, rfl, rfl, rfl, rfl, rfl⟩ ?_
  all_goals clear h2 h8 h9 h10 h11 h13 h14 h15 h16 ew hr0 hr1 hr2
  all_goals rintro j ρ H'' ⟨y', yn0, un0, q, u21, q0, rh, hr0, hr1, hr2, h2, h8, h9, h10, h14, h15, h17, h18, h16, rfl⟩
  all_goals have ew : IntKind.u64.wrap (rh + ynM y) = rh + ynM y := by rw [wrap_u64]; omega
  all_goals (repeat' first | (with_reducible (show W _ _ _ _ _); with_reducible refine go2 ?_) | (with_reducible (show W _ _ _ _ _); with_reducible refine sg2 ?_ ?_ <;> intro _) | (with_reducible (show W _ _ _ _ _); with_reducible refine sc2 ?_ ?_ <;> intro _) | (with_reducible (show W _ _ (.code (.region 6 _ true) :: _) _ _); with_reducible refine W_draw [(0, []), (1, []), (2, []), (3, []), (4, []), (5, []), (6, []), (7, [])] [] (by kernel_rfl) ?_))
  all_goals first
    | (refine ⟨j - 1, by omega, y', yn0, un0, q, u21, IntKind.u64.wrap (q0 - 1), rh + ynM y, by omega, by omega, by omega, ?_⟩; simp; done)
    | exact ⟨(IntKind.u64.wrap _, shrV .u64 (IntKind.u64.wrap _) _), ⟨wrap_inU _, shr_inU (wrap_inU _) _⟩, rfl⟩

theorem wdiv_ex {w : W2} (hw : InW w) {b : Int} (hb : InU b) (H : MH) : Spec Try.prog 92 [wd w, u64 b] H fun v H' => ∃ t : Int × Int × Bool, (InU t.1 ∧ InU t.2.1) ∧ v = .tup [u64 t.1, u64 t.2.1, bl t.2.2] ∧ H' = H := by
  refine Spec.scalarE (G := fun t : Int × Int × Bool => InU t.1 ∧ InU t.2.1) (r := fun t : Int × Int × Bool => .tup [u64 t.1, u64 t.2.1, bl t.2.2]) (enterS Try.func92 [.tmp 4, .tmp 5, .tmp 6] ?_)
  repeat' first | (with_reducible (show W _ _ _ _ _); with_reducible refine go2 ?_) | (with_reducible (show W _ _ _ _ _); with_reducible refine sg2 ?_ ?_ <;> intro _) | (with_reducible (show W _ _ _ _ _); with_reducible refine sc2 ?_ ?_ <;> intro _) | ((with_reducible (show CallK _ _ _ _ _ _ _ _ _ _ _); with_reducible refine cx2 (div64_ex hw.1 hw.2 hb (by omega) _) ?_; rintro u H' ⟨⟨q, r⟩, ⟨hq, hr⟩, rfl, rfl⟩))
  all_goals first
    | exact ⟨(0, 0, false), ⟨zero_in, zero_in⟩, rfl⟩
    | exact ⟨(q, r, true), ⟨hq, hr⟩, rfl⟩
theorem wlen53 {m : Int} (h : 0 ≤ m ∧ m < 9007199254740992) : 0 ≤ wlenM (0, m) ∧ wlenM (0, m) ≤ 53 := by
  have hl := lenM_le m
  unfold wlenM
  rw [if_pos rfl]
  refine ⟨hl.1, ?_⟩
  dsimp only
  obtain ⟨L, h1, h2, h3, h4⟩ := lenM_ln (x := m) ⟨h.1, by omega⟩
  rw [h1]
  rcases Int.lt_or_le 0 m with hm | hm
  · have h4 := h4 hm
    have : L < 54 := by
      rcases Nat.lt_or_ge L 54 with h | h
      · exact h
      · have : (2 : Int) ^ 54 ≤ 2 ^ L := by
          have := Nat.pow_le_pow_right (show 0 < 2 by decide) h
          exact_mod_cast this
        have e : (2 : Int) ^ 54 = 18014398509481984 := by decide
        omega
    omega
  · have : m = 0 := by omega
    subst this
    have : lenM 0 = 0 := by decide
    omega
theorem parts53 {a : Int} (h : InU a) : 0 ≤ (partsM a).1 ∧ (partsM a).1 < 9007199254740992 := by
  have hf := fracM_eq h
  have h1 := h.1
  have hor : bits .or .u64 (fracM a) 4503599627370496 = fracM a + 4503599627370496 := by
    rw [hf]
    have : ∀ x : Int, 0 ≤ x → x < 4503599627370496 → bits .or .u64 x 4503599627370496 = x + 4503599627370496 := fun x h h' => by go_bits2
    exact this _ (by omega) (by omega)
  unfold partsM
  split
  · dsimp only; omega
  · split
    · dsimp only; omega
    · exact ⟨by decide, by decide⟩
end Go.Proofs.Ytamoljalficfgaa.M
