/- Lists of numbers: the greatest, its power of two, all divided by it. -/
import Derived.Test.YtcikcinkjbbnhaaDoorC22
set_option linter.unusedSimpArgs false
set_option linter.unusedVariables false
set_option maxRecDepth 10000
set_option maxHeartbeats 4000000
namespace Go.Proofs.YtcikcinkjbbnhaaDoor.M
open Go Go.Proofs

def scaleM (a n : Int) : Int × Int :=
  if kindM a = 5 then (9221120237041090560, if signalsM a then 16 else 0) else if kindM a = 4 ∨ kindM a = 1 then (a, 0) else
  roundM (negM a) (0, (partsM a).1) (IntKind.i64.wrap ((partsM a).2 + (if -10000 < (if 10000 < n then 10000 else n) then (if 10000 < n then 10000 else n) else -10000))) false
theorem scaleM_in {a : Int} (ha : InU a) (n : Int) : InU (scaleM a n).1 := by
  unfold scaleM
  repeat' split
  all_goals first | exact quiet_in | exact ha | exact roundM_in _ _ _ _
theorem scale_spec {a : Int} (ha : InU a) (n : Int) (H : MH) : Spec Tryd.prog 57 [u64 a, i64 n] H fun v H' => v = .tup [u64 (scaleM a n).1, u8 (scaleM a n).2] ∧ H' = H := by
  have hw : InW (0, (partsM a).1) := ⟨zero_in, parts_in ha⟩
  refine Spec.scalar (enterS Tryd.func57 [.tmp 4, .tmp 5] ?_)
  repeat' first | (with_reducible (show W _ _ _ _ _); with_reducible refine go2 ?_) | (with_reducible (show W _ _ _ _ _); with_reducible refine sg2 ?_ ?_ <;> intro _) | (with_reducible (show W _ _ _ _ _); with_reducible refine sc2 ?_ ?_ <;> intro _) | (with_reducible (show CallK _ _ _ _ _ _ _ _ _ _ _); with_reducible refine ce2 (kind_spec _ _) ?_) | (with_reducible (show CallK _ _ _ _ _ _ _ _ _ _ _); with_reducible refine ce2 (signals_spec _ _) ?_) | (with_reducible (show CallK _ _ _ _ _ _ _ _ _ _ _); with_reducible refine ce2 (parts_spec _ _) ?_) | (with_reducible (show CallK _ _ _ _ _ _ _ _ _ _ _); with_reducible refine ce2 (neg_spec _ _) ?_) | (with_reducible (show CallK _ _ _ _ _ _ _ _ _ _ _); with_reducible refine ce2 (round_spec _ (w := (0, _)) hw _ _ _) ?_)
  all_goals simp_all [scaleM]

/-- The greatest of some without their signs, and where it is. -/
def greatL : List Int → Int → Int → Int → Int × Int
  | [], _, best, at_ => (best, at_)
  | b :: l, i, best, at_ => if kindM b = 5 then (9221120237041090560, i) else if at_ < 0 ∨ best < absM b then greatL l (i + 1) (absM b) i else greatL l (i + 1) best at_
def greatM (xs : List Int) : Int × Int := greatL xs 0 0 (-1)
theorem great_in {xs : List Int} : InU (greatM xs).1 := by
  have key : ∀ (xs : List Int) (i best at_ : Int), InU best → InU (greatL xs i best at_).1 := by
    intro xs
    induction xs with
    | nil => intro i best at_ h; exact h
    | cons b l ih =>
      intro i best at_ h
      unfold greatL
      split
      · exact quiet_in
      · split
        · exact ih _ _ _ (abs_in b)
        · exact ih _ _ _ h
  exact key _ _ _ _ zero_in
theorem drop_cons {xs : List Int} {k : Nat} (h : k < xs.length) : xs.drop k = xs.getD k 0 :: xs.drop (k + 1) := by
  rw [List.drop_eq_getElem_cons h]
  simp [List.getD_eq_getElem?_getD, h]
theorem great_spec {H : MH} {v : MV} {xs : List Int} (hv : Sl H v xs) (hlen0 : xs.length ≤ 1000000) : Spec Tryd.prog 60 [v] H fun u H' => u = .tup [u64 (greatM xs).1, i64 (greatM xs).2] ∧ H' = H := by
  have hlen := len22 hv
  refine Spec.scalar (enterS Tryd.func60 [.tmp 2, .tmp 3] ?_)
  repeat' first | (with_reducible (show W _ _ _ _ _); with_reducible refine go2 ?_) | (with_reducible (show W _ _ _ _ _); with_reducible refine sg2 ?_ ?_ <;> intro _) | (with_reducible (show W _ _ _ _ _); with_reducible refine sc2 ?_ ?_ <;> intro _)
  refine W_for (fun j ρ H' => ∃ (k : Nat) (best a : Int), k + j = xs.length ∧ greatL (xs.drop k) k best a = greatM xs ∧ ρ 4 = u64 best ∧ ρ 5 = i64 a ∧ ρ 8 = v ∧ ρ 9 = i64 (xs.length : Int) ∧ ρ 10 = i64 k ∧ H' = H) xs.length ?_ ?_
  · refine ⟨0, 0, -1, by omega, rfl, ?_⟩
    simp [put, args0]
  rintro j ρ H' ⟨k, best, a, hk, hg, h4, h5, h8, h9, h10, rfl⟩
  have hia2 : (k : Int) < xs.length → iaV (.slice 1 8 (some [.int .u64 0]) true) v (.lit (.int .i64 k)) = some (ixq v k) := fun h => hv.ia (by omega) _ _ _ _
  have hld2 : (k : Int) < xs.length → loadV Tryd.prog 24 (ixq v k) H' = some (u64 (xs.getD k 0)) := fun h => hv.ld (by rw [ty_24]) (by rw [ty_24]) (by omega)
  have hd : (k : Int) < xs.length → greatL (xs.getD k 0 :: xs.drop (k + 1)) k best a = greatM xs := fun h => by rw [← drop_cons (by omega)]; exact hg
  repeat' first | (with_reducible (show W _ _ _ _ _); with_reducible refine go2 ?_) | (with_reducible (show W _ _ _ _ _); with_reducible refine sg2 ?_ ?_ <;> intro _) | (with_reducible (show W _ _ _ _ _); with_reducible refine sc2 ?_ ?_ <;> intro _) | (with_reducible (show CallK _ _ _ _ _ _ _ _ _ _ _); with_reducible refine ce2 (kind_spec _ _) ?_) | (with_reducible (show CallK _ _ _ _ _ _ _ _ _ _ _); with_reducible refine ce2 (abs_spec _ _) ?_)
  · rename_i hlt h5
    have := hd hlt
    unfold greatL at this
    rw [if_pos h5] at this
    rw [← this]
  · rename_i hlt h5 ha hb
    have := hd hlt
    unfold greatL at this
    rw [if_neg h5, if_pos (.inr hb)] at this
    exact ⟨j - 1, by omega, k + 1, _, _, by omega, this, rfl, rfl, by rw [wrap_suc (n := (xs.length : Int)) (by assumption) (by omega)]⟩
  · rename_i hlt h5 ha hb
    have := hd hlt
    unfold greatL at this
    rw [if_neg h5, if_neg (by omega)] at this
    exact ⟨j - 1, by omega, k + 1, _, _, by omega, this, rfl, rfl, by rw [wrap_suc (n := (xs.length : Int)) (by assumption) (by omega)]⟩
  · rename_i hlt h5 ha
    have := hd hlt
    unfold greatL at this
    rw [if_neg h5, if_pos (.inl ha)] at this
    exact ⟨j - 1, by omega, k + 1, _, _, by omega, this, rfl, rfl, by rw [wrap_suc (n := (xs.length : Int)) (by assumption) (by omega)]⟩
  · rw [List.drop_eq_nil_of_le (by omega)] at hg
    unfold greatL at hg
    rw [← hg]

/-- How often a number may be halved. -/
def powE : Nat → Int → Int → Int
  | 0, _, e => e
  | f + 1, n, e => if 1 < n then powE f (shrV .u64 n 1) (IntKind.i64.wrap (e + 1)) else e
def powerM (xs : List Int) : Int × Bool := if (partsM (greatM xs).1).1 = 0 then (0, false) else (powE 64 (partsM (greatM xs).1).1 (partsM (greatM xs).1).2, true)
theorem shr1 {n : Int} (h : InU n) : shrV .u64 n 1 = n / 2 := by
  unfold shrV
  have : min (1 : Int).toNat IntKind.u64.bits = 1 := by decide
  rw [this, Int.fdiv_eq_ediv_of_nonneg _ (by decide)]
  rfl
theorem power_spec {H : MH} {v : MV} {xs : List Int} (hv : Sl H v xs) (hlen0 : xs.length ≤ 1000000) : Spec Tryd.prog 17 [v] H fun u H' => u = .tup [i64 (powerM xs).1, bl (powerM xs).2] ∧ H' = H := by
  refine Spec.scalar (enterS Tryd.func17 [.tmp 2, .tmp 3] ?_)
  repeat' first | (with_reducible (show W _ _ _ _ _); with_reducible refine go2 ?_) | (with_reducible (show W _ _ _ _ _); with_reducible refine sg2 ?_ ?_ <;> intro _) | (with_reducible (show W _ _ _ _ _); with_reducible refine sc2 ?_ ?_ <;> intro _) | (with_reducible (show CallK _ _ _ _ _ _ _ _ _ _ _); with_reducible refine ce2 (great_spec hv hlen0) ?_) | (with_reducible (show CallK _ _ _ _ _ _ _ _ _ _ _); with_reducible refine ce2 (parts_spec _ _) ?_)
  · rename_i h0
    simp [powerM, h0]
  rename_i h0
  have hn := parts_in (a := (greatM xs).1) great_in
  refine W_for (fun j ρ H' => ∃ n e : Int, InU n ∧ n < 2 ^ j ∧ powE j n e = (powerM xs).1 ∧ ρ 6 = u64 n ∧ ρ 7 = i64 e ∧ H' = H) 64 ?_ ?_
  · refine ⟨(partsM (greatM xs).1).1, (partsM (greatM xs).1).2, hn, hn.2, by rw [powerM, if_neg h0], ?_⟩
    simp [put, args0]
  rintro j ρ H' ⟨n, e, hn, hlt, hp, h6, h7, rfl⟩
  repeat' first | (with_reducible (show W _ _ _ _ _); with_reducible refine go2 ?_) | (with_reducible (show W _ _ _ _ _); with_reducible refine sg2 ?_ ?_ <;> intro _) | (with_reducible (show W _ _ _ _ _); with_reducible refine sc2 ?_ ?_ <;> intro _)
  · rename_i h1
    obtain ⟨j, rfl⟩ : ∃ i, j = i + 1 := by
      cases j with
      | zero => simp at hlt; omega
      | succ i => exact ⟨i, rfl⟩
    have e1 : powE (j + 1) n e = powE j (shrV .u64 n 1) (IntKind.i64.wrap (e + 1)) := by rw [powE, if_pos h1]
    refine ⟨j, by omega, _, _, shr_inU hn 1, ?_, e1.symm.trans hp, rfl, rfl⟩
    rw [shr1 hn]
    have : (2 : Int) ^ (j + 1) = 2 ^ j * 2 := Int.pow_succ 2 j
    omega
  · rename_i h1
    have : powE j n e = e := by
      cases j with
      | zero => rfl
      | succ j => rw [powE, if_neg h1]
    rw [this] at hp
    rw [← hp]
    simp [powerM, h0]
end Go.Proofs.YtcikcinkjbbnhaaDoor.M
