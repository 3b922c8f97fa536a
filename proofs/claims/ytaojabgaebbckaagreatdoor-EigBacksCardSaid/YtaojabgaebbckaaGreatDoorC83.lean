/- (bal.Balance).Back, as a function of its lists. -/
import Derived.Test.YtaojabgaebbckaaGreatDoorC82
set_option linter.unusedSimpArgs false
set_option linter.unusedVariables false
set_option pp.deepTerms false
set_option pp.maxSteps 1500
set_option maxRecDepth 10000
set_option maxHeartbeats 1000000
namespace Go.Proofs.YtaojabgaebbckaaGreatDoor.M
open Go Go.Proofs

/-- By which power a number is scaled. -/
def bkP (pw : List Int) (left : Bool) (i : Nat) : Int :=
  let q := if -20000 < (if 20000 < pw.getD i 0 then 20000 else pw.getD i 0) then (if 20000 < pw.getD i 0 then 20000 else pw.getD i 0) else -20000
  if left = true then IntKind.i64.wrap (0 - q) else q
def backL (pl pw xs : List Int) (left : Bool) : Nat → Option (List Int × Int)
  | 0 => some (List.replicate xs.length 0, 0)
  | i + 1 => (backL pl pw xs left i).bind fun s => if pl.getD i 0 < 0 ∨ (xs.length : Int) ≤ pl.getD i 0 then none else
      some (s.1.set (pl.getD i 0).toNat (scaleM (xs.getD i 0) (bkP pw left i)).1, bits .or .u8 s.2 (scaleM (xs.getD i 0) (bkP pw left i)).2)
theorem back_shape {r p2 p3 : Nat} {lo hi : Int} {v : MV} {xs : List Int} {H : MH} (hv : Sl H v xs) (hx : ¬ xs.length = r) (left : Bool) :
    Spec Tryz.prog 12 [.agg [.slice p2 0 r r 1, .slice p3 0 r r 1, i64 lo, i64 hi], v, bl left] H fun u H' => u = .tup [.lit (.slice none 0 0), u8 0, i64 4] ∧ H' = H := by
  have hlen := len22 hv
  have hx2 : ((xs.length : Int) = (r : Int)) = False := eq_false (by omega)
  refine Spec.scalar (enterS Tryz.func12 [.tmp 6, .tmp 7, .tmp 8] ?_)
  repeat' first | (with_reducible (show W _ _ _ _ _); with_reducible refine go2 ?_) | (with_reducible (show W _ _ _ _ _); with_reducible refine sg2 ?_ ?_ <;> intro _) | (with_reducible (show W _ _ _ _ _); with_reducible refine sc2 ?_ ?_ <;> intro _)
  all_goals first | trivial | trace_state
theorem bk_none {pl pw xs : List Int} {left : Bool} {i : Nat} (h : backL pl pw xs left i = none) : ∀ m, backL pl pw xs left (i + m) = none
  | 0 => h
  | m + 1 => by
    show (backL pl pw xs left (i + m)).bind _ = none
    rw [bk_none h m]; rfl
theorem bk_bad {pl pw xs : List Int} {left : Bool} {i r : Nat} {s : List Int × Int} (h : backL pl pw xs left i = some s) (hi : i < r) (hb : pl.getD i 0 < 0 ∨ (xs.length : Int) ≤ pl.getD i 0) : backL pl pw xs left r = none := by
  have h1 : backL pl pw xs left (i + 1) = none := by
    show (backL pl pw xs left i).bind _ = none
    rw [h]
    exact if_pos hb
  have := bk_none h1 (r - (i + 1))
  rwa [show i + 1 + (r - (i + 1)) = r by omega] at this
theorem bk_good {pl pw xs : List Int} {left : Bool} {i : Nat} {s : List Int × Int} (h : backL pl pw xs left i = some s) (hb : ¬ (pl.getD i 0 < 0 ∨ (xs.length : Int) ≤ pl.getD i 0)) : backL pl pw xs left (i + 1) = some (s.1.set (pl.getD i 0).toNat (scaleM (xs.getD i 0) (bkP pw left i)).1, bits .or .u8 s.2 (scaleM (xs.getD i 0) (bkP pw left i)).2) := by
  show (backL pl pw xs left i).bind _ = _
  rw [h]
  exact if_neg hb
theorem back_core {r p2 p3 : Nat} (hr : r ≤ 1000) {lo hi : Int} {v : MV} {pl pw xs : List Int} {H : MH} (hv : Sl H v xs) (hI : InD xs) (hx : xs.length = r) (hpl : pl.length = r) (hpw : pw.length = r) {rw rw' : Bool} (hp2 : hget H p2 = some ⟨pl.map i64, rw⟩) (hp3 : hget H p3 = some ⟨pw.map i64, rw'⟩) (left : Bool) :
    Spec Tryz.prog 12 [.agg [.slice p2 0 r r 1, .slice p3 0 r r 1, i64 lo, i64 hi], v, bl left] H fun u H' => (backL pl pw xs left r = none ∧ u = .tup [.lit (.slice none 0 0), u8 0, i64 1] ∧ Old H H') ∨
      ∃ (o : List Int) (g : Int) (p : Nat), backL pl pw xs left r = some (o, g) ∧ u = .tup [.slice p 0 r r 1, u8 g, i64 0] ∧ H.length ≤ p ∧ hget H' p = some ⟨o.map u64, true⟩ ∧ Old H H' := by
  have hlen := len22 hv
  have hx2 : ((xs.length : Int) = (r : Int)) = True := eq_true (by omega)
  have hxr : ((xs.length : Nat) : Int) = (r : Int) := by omega
  have hms : msV (.slice 1 8 (some [.int .u64 0]) true) (.lit (.int .i64 (r : Int))) (.lit (.int .i64 (r : Int))) = some (List.replicate r (u64 0), r, r, 1) := by
    simp only [msV]
    rw [if_pos ⟨by omega, Int.le_refl _, by omega, by omega, rfl⟩, Int.toNat_natCast, Nat.mul_one]
    congr 2
    refine List.eq_replicate_iff.2 ⟨by simp, fun b hb => ?_⟩
    obtain ⟨i, _, rfl⟩ := List.mem_map.1 hb
    rw [show i % [Value.int IntKind.u64 0].length = 0 from Nat.mod_one i]
    rfl
  rw [hxr] at hlen
  clear hx2
  refine enterS Tryz.func12 [.tmp 6, .tmp 7, .tmp 8] ?_
  repeat' first | (with_reducible (show W _ _ _ _ _); with_reducible refine go2 ?_) | (with_reducible (show W _ _ _ _ _); with_reducible refine sg2 ?_ ?_ <;> intro _)
  refine W_for (fun j ρ C => ∃ (i : Nat) (o : List Int) (g : Int), i + j = r ∧ backL pl pw xs left i = some (o, g) ∧ o.length = r ∧ ρ 1 = v ∧ ρ 2 = bl left ∧ ρ 3 = .ptr H.length 0 ∧ ρ 9 = .slice (H.length + 1) 0 r r 1 ∧ ρ 10 = u8 g ∧ ρ 33 = v ∧ ρ 34 = i64 (r : Int) ∧ ρ 35 = i64 (i : Int) ∧ C = H ++ [some ⟨[.slice p2 0 r r 1, .slice p3 0 r r 1, i64 lo, i64 hi], true⟩, some ⟨o.map u64, true⟩]) r ?_ ?_
  · exact ⟨0, List.replicate r 0, 0, by omega, by rw [← hx]; rfl, by simp, rfl, rfl, rfl, rfl, rfl, rfl, rfl, rfl, by rw [List.map_replicate]⟩
  rintro j ρ C ⟨i, o, g, hij, hbk, hol, h1, h2, h3, h9, h10, h33, h34, h35, rfl⟩
  by_cases hir : (i : Int) < (r : Int)
  · have hir2 : ((i : Int) < (r : Int)) = True := eq_true hir
    have et : IntKind.i64.wrap ((i : Int) + 1) = ((i + 1 : Nat) : Int) := by rw [wrap_i64 (by omega)]; omega
    have hia := hv.ia (j := i) (by omega) 8 (some [.int .u64 0]) true .i64
    have hld := fun L : MH => (hv.app L).ld (P := Tryz.prog) (t := 22) (by rw [ty_22]) (by rw [ty_22]) (j := i) (by omega)
    have hiw : ∀ P : Nat, iaV (.slice 1 8 (some [.int .i64 0]) true) (.slice P 0 r r 1) (.lit (.int .i64 (i : Int))) = some (.ptr P i) := fun P => by
      rw [iaV_slice, if_pos ⟨by omega, by omega⟩]; simp
    have hgp : (pl.map i64)[i]? = some (i64 (pl.getD i 0)) := by rw [List.getElem?_map, List.getD_eq_getElem?_getD, List.getElem?_eq_getElem (by omega)]; rfl
    have hgw : (pw.map i64)[i]? = some (i64 (pw.getD i 0)) := by rw [List.getElem?_map, List.getD_eq_getElem?_getD, List.getElem?_eq_getElem (by omega)]; rfl
    have h2L : ∀ L : MH, hget (H ++ L) p2 = _ := fun L => hget_appL hp2
    have h3L : ∀ L : MH, hget (H ++ L) p3 = _ := fun L => hget_appL hp3
    cases left
    all_goals
      repeat' first | (with_reducible (show W _ _ _ _ _); with_reducible refine go2 ?_) | (with_reducible (show W _ _ _ _ _); with_reducible refine sg2 ?_ ?_ <;> intro _) | (with_reducible (show CallK _ _ _ _ _ _ _ _ _ _ _); with_reducible refine ce2 (scale_spec (getD_in hI _) _ _) ?_)
      · refine sc2 ?_ ?_ <;> intro hge
        · repeat' first | (with_reducible (show W _ _ _ _ _); with_reducible refine go2 ?_) | (with_reducible (show W _ _ _ _ _); with_reducible refine sg2 ?_ ?_ <;> intro _) | (with_reducible (show W _ _ _ _ _); with_reducible refine sc2 ?_ ?_ <;> intro _)
          exact .inl ⟨bk_bad hbk (by omega) (.inr (by omega)), (Old.refl H).app _⟩
        rename_i hlt
        obtain ⟨q, hq⟩ := Int.eq_ofNat_of_zero_le (Int.not_lt.1 hlt)
        have hgood := bk_good hbk (show ¬ (pl.getD i 0 < 0 ∨ (xs.length : Int) ≤ pl.getD i 0) by omega)
        have hqr : q < r := by omega
        have f0 : (0 ≤ (q : Int)) = True := eq_true (by omega)
        have f1 : ((q : Int) < (r : Int)) = True := eq_true (by omega)
        have f2 : (q : Int).toNat = q := Int.toNat_natCast q
        have f3 : q * 1 = q := Nat.mul_one q
        have hil : (q + 1 ≤ (o.map u64).length) = True := eq_true (by rw [List.length_map]; omega)
        rw [hq, f2] at hgood
        have hgood2 : Hid2 (backL pl pw xs _ (i + 1) = _) := hgood
        clear hgood
        repeat' first | (with_reducible (show W _ _ _ _ _); with_reducible refine go2 ?_) | (with_reducible (show W _ _ _ _ _); with_reducible refine sg2 ?_ ?_ <;> intro _)
        refine ⟨j - 1, by omega, i + 1, o.set q (scaleM (xs.getD i 0) (bkP pw _ i)).1, _, by omega, hgood2, by rw [List.length_set]; exact hol, rfl, rfl, by rw [List.map_set]; rfl⟩
      · rename_i hneg
        exact .inl ⟨bk_bad hbk (by omega) (.inl hneg), (Old.refl H).app _⟩
  · have hir2 : ((i : Int) < (r : Int)) = False := eq_false hir
    obtain rfl : i = r := by omega
    repeat' first | (with_reducible (show W _ _ _ _ _); with_reducible refine go2 ?_) | (with_reducible (show W _ _ _ _ _); with_reducible refine sg2 ?_ ?_ <;> intro _) | (with_reducible (show W _ _ _ _ _); with_reducible refine sc2 ?_ ?_ <;> intro _)
    exact ⟨o, g, H.length + 1, rfl, rfl, by omega, hget_newL rfl, (Old.refl H).app _⟩
/-- What Back answers, in one: an error, or a list. -/
def bkE (pl pw xs : List Int) (left : Bool) (r : Nat) : Int := if xs.length = r then (if (backL pl pw xs left r).isSome = true then 0 else 1) else 4
theorem back_all {r p2 p3 : Nat} (hr : r ≤ 1000) {lo hi : Int} {v : MV} {pl pw xs : List Int} {H : MH} (hv : Sl H v xs) (hI : InD xs) (hpl : pl.length = r) (hpw : pw.length = r) {rw rw' : Bool} (hp2 : hget H p2 = some ⟨pl.map i64, rw⟩) (hp3 : hget H p3 = some ⟨pw.map i64, rw'⟩) (left : Bool) :
    Spec Tryz.prog 12 [.agg [.slice p2 0 r r 1, .slice p3 0 r r 1, i64 lo, i64 hi], v, bl left] H fun u H' => (¬ bkE pl pw xs left r = 0 ∧ u = .tup [.lit (.slice none 0 0), u8 0, i64 (bkE pl pw xs left r)] ∧ Old H H') ∨
      ∃ p : Nat, bkE pl pw xs left r = 0 ∧ u = .tup [.slice p 0 r r 1, u8 ((backL pl pw xs left r).getD ([], 0)).2, i64 0] ∧ H.length ≤ p ∧ hget H' p = some ⟨((backL pl pw xs left r).getD ([], 0)).1.map u64, true⟩ ∧ Old H H' := by
  by_cases hx : xs.length = r
  · refine (back_core hr hv hI hx hpl hpw hp2 hp3 left).mono ?_
    rintro u H' (⟨h1, rfl, h2⟩ | ⟨o, g, p, h1, rfl, h2, h3, h4⟩)
    · left
      have : bkE pl pw xs left r = 1 := by unfold bkE; rw [if_pos hx, h1]; rfl
      rw [this]
      exact ⟨by decide, rfl, h2⟩
    · right
      refine ⟨p, by unfold bkE; rw [if_pos hx, h1]; rfl, ?_, h2, ?_, h4⟩
      · rw [h1]; rfl
      · rw [h1]; exact h3
  · refine (back_shape hv hx left).mono ?_
    rintro u H' ⟨rfl, rfl⟩
    left
    have : bkE pl pw xs left r = 4 := by unfold bkE; rw [if_neg hx]
    rw [this]
    exact ⟨by decide, rfl, Old.refl H'⟩
theorem backL_len {pl pw xs : List Int} {left : Bool} : ∀ {i : Nat} {s : List Int × Int}, backL pl pw xs left i = some s → s.1.length = xs.length
  | 0, s, h => by
    cases h; simp
  | i + 1, s, h => by
    have h : (backL pl pw xs left i).bind _ = some s := h
    obtain ⟨t, h1, h2⟩ := Option.bind_eq_some_iff.1 h
    split at h2
    · cases h2
    · cases h2
      rw [List.length_set]
      exact backL_len h1
end Go.Proofs.YtaojabgaebbckaaGreatDoor.M
