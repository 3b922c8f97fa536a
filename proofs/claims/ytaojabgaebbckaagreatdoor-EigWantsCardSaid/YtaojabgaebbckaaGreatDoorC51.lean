/- Which of two is less; the root of the sum of squares with a Calc. -/
import Derived.Test.YtaojabgaebbckaaGreatDoorC37
set_option linter.unusedSimpArgs false
set_option linter.unusedVariables false
set_option pp.deepTerms false
set_option pp.maxSteps 1500
set_option maxRecDepth 10000
set_option maxHeartbeats 8000000
namespace Go.Proofs.YtaojabgaebbckaaGreatDoor.M
open Go Go.Proofs

def rankM (b : Int) : Int := if negM b = true then IntKind.i64.wrap (0 - IntKind.i64.wrap (absM b)) else IntKind.i64.wrap b
theorem rank_spec (b : Int) (H : MH) : Spec Tryz.prog 44 [u64 b] H fun v H' => v = i64 (rankM b) ∧ H' = H := by
  refine Spec.scalar (enterS Tryz.func44 [.tmp 2] ?_)
  repeat' first | (with_reducible (show W _ _ _ _ _); with_reducible refine go2 ?_) | (with_reducible (show W _ _ _ _ _); with_reducible refine sg2 ?_ ?_ <;> intro _) | (with_reducible (show W _ _ _ _ _); with_reducible refine sc2 ?_ ?_ <;> intro _) | (with_reducible (show CallK _ _ _ _ _ _ _ _ _ _ _); with_reducible refine ce2 (neg_spec _ _) ?_) | (with_reducible (show CallK _ _ _ _ _ _ _ _ _ _ _); with_reducible refine ce2 (abs_spec _ _) ?_)
  all_goals simp_all [rankM]
def cmpM (a b : Int) : Int × Bool := if kindM a = 5 ∨ kindM b = 5 then (0, false) else if rankM a < rankM b then (-1, true) else if rankM b < rankM a then (1, true) else (0, true)
theorem cmp_spec (a b : Int) (H : MH) : Spec Tryz.prog 19 [u64 a, u64 b] H fun v H' => v = .tup [i64 (cmpM a b).1, bl (cmpM a b).2] ∧ H' = H := by
  refine Spec.scalar (enterS Tryz.func19 [.tmp 4, .tmp 5] ?_)
  repeat' first | (with_reducible (show W _ _ _ _ _); with_reducible refine go2 ?_) | (with_reducible (show W _ _ _ _ _); with_reducible refine sg2 ?_ ?_ <;> intro _) | (with_reducible (show W _ _ _ _ _); with_reducible refine sc2 ?_ ?_ <;> intro _) | (with_reducible (show CallK _ _ _ _ _ _ _ _ _ _ _); with_reducible refine ce2 (kind_spec _ _) ?_) | (with_reducible (show CallK _ _ _ _ _ _ _ _ _ _ _); with_reducible refine ce2 (rank_spec _ _) ?_)
  all_goals simp [cmpM, *, -Int.not_lt]
def lessM (a b : Int) : Bool := (cmpM a b).2 && decide ((cmpM a b).1 < 0)
theorem less_spec (a b : Int) (H : MH) : Spec Tryz.prog 7 [u64 a, u64 b] H fun v H' => v = bl (lessM a b) ∧ H' = H := by
  refine Spec.scalar (enterS Tryz.func7 [.tmp 4] ?_)
  repeat' first | (with_reducible (show W _ _ _ _ _); with_reducible refine go2 ?_) | (with_reducible (show W _ _ _ _ _); with_reducible refine sg2 ?_ ?_ <;> intro _) | (with_reducible (show W _ _ _ _ _); with_reducible refine sc2 ?_ ?_ <;> intro _) | (with_reducible (show CallK _ _ _ _ _ _ _ _ _ _ _); with_reducible refine ce2 (cmp_spec _ _ _) ?_)
  all_goals simp_all [lessM]

theorem nrm2_c {H : MH} {v : MV} {xs : List Int} (hv : Sl H v xs) (hI : InD xs) (hlen0 : 0 < xs.length ∧ xs.length ≤ 1000000) {p : Nat} {g : Int} (hp : hget H p = some ⟨[u8 g], true⟩) :
    Spec Tryz.prog 18 [.ptr p 0, v] H fun u H' => u = u64 (nrm2M xs) ∧ ∃ g' J, H' = H.set p (some ⟨[u8 g'], true⟩) ++ J := by
  have hpl := lt_of_hget hp
  refine enterS Tryz.func18 [.tmp 4] ?_
  repeat' first | (with_reducible (show W _ _ _ _ _); with_reducible refine go2 ?_) | (with_reducible (show W _ _ _ _ _); with_reducible refine sg2 ?_ ?_ <;> intro _) | (with_reducible (show W _ _ _ _ _); with_reducible refine sc2 ?_ ?_ <;> intro _) | (with_reducible (show CallK _ _ _ _ _ _ _ _ _ _ _); with_reducible refine ce2 (power_spec hv hlen0.2) ?_) | (with_reducible (show CallK _ _ _ _ _ _ _ _ _ _ _); with_reducible refine ce2 (great_spec hv hlen0.2) ?_) | ((with_reducible (show CallK _ _ _ _ _ _ _ _ _ _ _); with_reducible refine cx2 (vunit_spec (Sl.app hv _) hI _ hlen0) ?_; rintro u' H' ⟨c, hc, rfl, rfl⟩))
  · rename_i h0
    unfold nrm2M
    rw [if_neg (by rw [h0]; decide)]
    exact ⟨rfl, g, [], by rw [hset_id hp, List.append_nil]⟩
  rename_i h0
  have hUl := unitL_len xs (powerM xs).1
  generalize hUe : unitL xs (powerM xs).1 = U at hUl
  refine W_for (fun j ρ H' => ∃ k : Nat, k + j = xs.length ∧ ρ 0 = .ptr p 0 ∧ ρ 5 = i64 (powerM xs).1 ∧ ρ 9 = .ptr H.length 0 ∧ ρ 10 = u64 (sqsS U k).1 ∧ ρ 31 = .slice (H.length + 1) 0 xs.length c 1 ∧ ρ 32 = i64 (xs.length : Int) ∧ ρ 33 = i64 k ∧
    H' = H ++ [some ⟨[u8 (sqsS U k).2], true⟩, some ⟨U.map u64, true⟩]) xs.length ?_ ?_
  · refine ⟨0, by omega, ?_⟩
    simp [put, args0, sqsS, iter]
  rintro j ρ H' ⟨k, hk, h0', h5, h9, h10, h31, h32, h33, rfl⟩
  have f3 : ∀ m : Nat, (0 ≤ (m : Int)) = True := fun m => eq_true (by omega)
  have f5 : ∀ m : Nat, (m : Int).toNat = m := fun m => Int.toNat_natCast m
  have f6 : ∀ m : Nat, m * 1 = m := Nat.mul_one
  have f7 : (k : Int) < xs.length → (U.map u64)[k]? = some (u64 (U.getD k 0)) := fun h => by
    have : k < U.length := by omega
    simp [List.getD_eq_getElem?_getD, this]
  have hcell : ∀ (g : Int) (L : MH), hget (H ++ some ⟨[u8 g], true⟩ :: L) H.length = some ⟨[u8 g], true⟩ := fun g L => by unfold hget; simp
  have hpc : ∀ (L : MH), hget (H ++ L) p = some ⟨[u8 g], true⟩ := fun L => hget_appL hp
  have hsi := sqsS_in U k
  have e1 : (k : Int) < xs.length → IntKind.i64.wrap ((k : Int) + 1) = ((k + 1 : Nat) : Int) := fun h => by rw [wrap_i64 (by omega)]; omega
  have hsq := sqrtM_in hsi
  repeat' first | (with_reducible (show W _ _ _ _ _); with_reducible refine go2 ?_) | (with_reducible (show W _ _ _ _ _); with_reducible refine sg2 ?_ ?_ <;> intro _) | (with_reducible (show W _ _ _ _ _); with_reducible refine sc2 ?_ ?_ <;> intro _) | (with_reducible (show CallK _ _ _ _ _ _ _ _ _ _ _); with_reducible refine ce2 (sqrt_spec hsi _) ?_) | (with_reducible (show CallK _ _ _ _ _ _ _ _ _ _ _); with_reducible refine ce2 (scale_spec hsq _ _) ?_) | ((with_reducible (show CallK _ _ _ _ _ _ _ _ _ _ _); first | (with_reducible refine cM (cmul_spec _ _ _ (hcell _ _)) ?_) | (with_reducible refine cM (cadd_spec hsi (mulM_in _ _) _ (hcell _ _)) ?_) | (with_reducible refine cM (Note_spec _ _ _ (hpc _)) ?_)))
  · refine ⟨j - 1, by omega, k + 1, by omega, ?_, rfl, ?_⟩ <;> rw [sqsS_succ]
  · have hk2 : k = xs.length := by omega
    subst hk2
    unfold nrm2M
    rw [if_pos (by simpa using h0), hUe]
    exact ⟨rfl, _, _, rfl⟩
def hypotM (a b : Int) : Int := if bits .andNot .u64 a 9223372036854775808 = 9218868437227405312 ∨ bits .andNot .u64 b 9223372036854775808 = 9218868437227405312 then 9218868437227405312 else nrm2M [a, b]
theorem hypotM_in (a b : Int) : InU (hypotM a b) := by
  unfold hypotM
  split
  · constructor <;> decide
  · exact nrm2M_in _
theorem hypot_spec {a b : Int} (ha : InU a) (hb : InU b) (H : MH) : Spec Tryz.prog 6 [u64 a, u64 b] H fun v H' => ∃ f : Int, True ∧ v = .tup [u64 (hypotM a b), u8 f] ∧ H' = H := by
  have hbs := bsV_two
  have hsl : ∀ (x : Option MO), Sl (H ++ [x, some ⟨[u64 a, u64 b], true⟩]) (.slice (H.length + 1) 0 2 2 1) [a, b] := fun x => .inr ⟨H.length + 1, 0, 2, _, rfl, hget_newL rfl, fun i hi => by
    match i, hi with
    | 0, _ => rfl
    | 1, _ => rfl⟩
  have hI : InD [a, b] := by
    intro x hx
    simp only [List.mem_cons, List.not_mem_nil, or_false] at hx
    rcases hx with rfl | rfl
    · exact ha
    · exact hb
  refine Spec.scalarE (G := fun _ : Int => True) (r := fun f => .tup [u64 (hypotM a b), u8 f]) (enterS Tryz.func6 [.tmp 4, .tmp 5] ?_)
  repeat' first | (with_reducible (show W _ _ _ _ _); with_reducible refine go2 ?_) | (with_reducible (show W _ _ _ _ _); with_reducible refine sg2 ?_ ?_ <;> intro _) | (with_reducible (show W _ _ _ _ _); with_reducible refine sc2 ?_ ?_ <;> intro _) | (with_reducible (show W _ _ (.code (.region 5 _ true) :: _) _ _); with_reducible refine W_draw [(0, []), (1, []), (2, []), (3, []), (4, [])] [] (by kernel_rfl) ?_) | ((with_reducible (show CallK _ _ _ _ _ _ _ _ _ _ _); with_reducible refine cx2 (nrm2_c (hsl _) hI ⟨by simp, by simp⟩ hget_new') ?_; rintro u' H' ⟨rfl, g', J, rfl⟩))
  · rename_i h1 h2
    exact ⟨0, by rw [hypotM, if_pos (.inr h2)]⟩
  · rename_i h1 h2
    exact ⟨g', by rw [hypotM, if_neg (fun h => h.elim h1 h2)]⟩
  · rename_i h1
    exact ⟨0, by rw [hypotM, if_pos (.inl h1)]⟩
end Go.Proofs.YtaojabgaebbckaaGreatDoor.M
