/- Lists divided by a power of two; the root of the sum of squares. -/
import Derived.Test.YtamoljalficfgaaC35
set_option linter.unusedSimpArgs false
set_option linter.unusedVariables false
set_option maxRecDepth 10000
set_option maxHeartbeats 8000000
namespace Go.Proofs.Ytamoljalficfgaa.M
open Go Go.Proofs

def clamp2 (e : Int) : Int := if -20000 < (if 20000 < e then 20000 else e) then (if 20000 < e then 20000 else e) else -20000
def unitL (xs : List Int) (e : Int) : List Int := (List.range xs.length).map fun i => (scaleM (xs.getD i 0) (IntKind.i64.wrap (0 - clamp2 e))).1
theorem unitL_len (xs : List Int) (e : Int) : (unitL xs e).length = xs.length := by simp [unitL]
theorem unitL_in {xs : List Int} (h : InD xs) (e : Int) : InD (unitL xs e) := by
  intro x hx
  simp only [unitL, List.mem_map] at hx
  obtain ⟨i, _, rfl⟩ := hx
  exact scaleM_in (getD_in h i) _
theorem vunit_spec {H : MH} {v : MV} {xs : List Int} (hv : Sl H v xs) (hI : InD xs) (e : Int) (hlen0 : 0 < xs.length ∧ xs.length ≤ 1000000) : Spec Try.prog 58 [v, i64 e] H fun u H' => ∃ c : Nat, xs.length ≤ c ∧ u = .slice H.length 0 xs.length c 1 ∧ H' = H ++ [some ⟨(unitL xs e).map u64, true⟩] := by
  have hlen := len22 hv
  refine Spec.oneX (G := fun c => xs.length ≤ c) (v := fun c p => .slice p 0 xs.length c 1) (cs := fun _ => (unitL xs e).map u64) (fun _ => closed_u64 _) (fun c p => by simp [Cl, Cls']) (fun c π p _ => by simp [ren, rens]) ?_
  refine enterS Try.func58 [.tmp 4] ?_
  repeat' first | (with_reducible (show W _ _ _ _ _); with_reducible refine go2 ?_) | (with_reducible (show W _ _ _ _ _); with_reducible refine sg2 ?_ ?_ <;> intro _) | (with_reducible (show W _ _ _ _ _); with_reducible refine sc2 ?_ ?_ <;> intro _)
  refine W_for (fun j ρ C => ∃ m : Nat, m + j = xs.length ∧ ρ 1 = i64 (clamp2 e) ∧ ρ 13 = v ∧ ρ 14 = i64 (xs.length : Int) ∧ ρ 15 = i64 m ∧ Old H C ∧ Ys H C (fun i => (scaleM (xs.getD i 0) (IntKind.i64.wrap (0 - clamp2 e))).1) m (ρ 5)) xs.length ?_ ?_
  · refine ⟨0, by omega, rfl, rfl, rfl, rfl, Old.refl H, .inl ⟨rfl, rfl⟩⟩
  rintro j ρ C ⟨m, hm, h1, h13, h14, h15, hC, hx⟩
  have hvC := hC.sl hv
  have hia2 : (m : Int) < xs.length → iaV (.slice 1 8 (some [.int .u64 0]) true) v (.lit (.int .i64 m)) = some (ixq v m) := fun h => hvC.ia (by omega) _ _ _ _
  have hld2 : (m : Int) < xs.length → loadV Try.prog 23 (ixq v m) C = some (u64 (xs.getD m 0)) := fun h => hvC.ld (by rw [ty_23]) (by rw [ty_23]) (by omega)
  have hin := getD_in hI m
  have hty : (ty Try.prog 22).k = .slice 1 8 (some [.int .u64 0]) true := by rw [ty_22]
  have hbs : ∀ x : Int, bsV (.slice 1 8 (some [.int .u64 0]) true) 1 [(0, u64 x)] = some ([u64 x], 1) := fun x => _root_.id rfl
  have e1 : (m : Int) < xs.length → IntKind.i64.wrap ((m : Int) + 1) = ((m + 1 : Nat) : Int) := fun h => by rw [wrap_i64 (by omega)]; omega
  repeat' first | (with_reducible (show W _ _ _ _ _); with_reducible refine go2 ?_) | (with_reducible (show W _ _ _ _ _); with_reducible refine sg2 ?_ ?_ <;> intro _) | (with_reducible (show W _ _ _ _ _); with_reducible refine sc2 ?_ ?_ <;> intro _) | (with_reducible (show CallK _ _ _ _ _ _ _ _ _ _ _); with_reducible refine ce2 (scale_spec hin _ _) ?_) | ((with_reducible (show AppK _ _ _ _ _ _ _ _ _ _); with_reducible refine app_ys hC hx (by omega) hty rfl ?_; rintro v' C' hC' hx'))
  · exact ⟨j - 1, by omega, m + 1, by omega, rfl, hx'⟩
  · have hm2 : m = xs.length := by omega
    subst hm2
    rcases hx with ⟨h0, _⟩ | ⟨px, c, h5, hc, hp, hl⟩
    · omega
    · exact ⟨c, px, hc, h5, hl, hp⟩

/-- The root of the sum of squares, with nobody to remember. -/
def sqsS (U : List Int) (n : Nat) : Int × Int := iter (fun i s => ((addM s.1 (mulM (U.getD i 0) (U.getD i 0)).1).1, bits .or .u8 (bits .or .u8 s.2 (mulM (U.getD i 0) (U.getD i 0)).2) (addM s.1 (mulM (U.getD i 0) (U.getD i 0)).1).2)) n (0, 0)
theorem sqsS_in (U : List Int) : ∀ n, InU (sqsS U n).1
  | 0 => zero_in
  | n + 1 => addM_in (sqsS_in U n) (mulM_in _ _)
theorem sqsS_succ (U : List Int) (n : Nat) : sqsS U (n + 1) = ((addM (sqsS U n).1 (mulM (U.getD n 0) (U.getD n 0)).1).1, bits .or .u8 (bits .or .u8 (sqsS U n).2 (mulM (U.getD n 0) (U.getD n 0)).2) (addM (sqsS U n).1 (mulM (U.getD n 0) (U.getD n 0)).1).2) := rfl
def nrm2M (xs : List Int) : Int := if (powerM xs).2 = true then (scaleM (sqrtM (sqsS (unitL xs (powerM xs).1) xs.length).1).1 (powerM xs).1).1 else (greatM xs).1
theorem nrm2M_in (xs : List Int) : InU (nrm2M xs) := by
  unfold nrm2M
  split
  · exact scaleM_in (sqrtM_in (sqsS_in _ _)) _
  · exact great_in
theorem nrm2_spec {H : MH} {v : MV} {xs : List Int} (hv : Sl H v xs) (hI : InD xs) (hlen0 : 0 < xs.length ∧ xs.length ≤ 1000000) : Spec Try.prog 59 [nilp, v] H fun u H' => u = u64 (nrm2M xs) ∧ H' = H := by
  refine Spec.scalar (enterS Try.func59 [.tmp 4] ?_)
  repeat' first | (with_reducible (show W _ _ _ _ _); with_reducible refine go2 ?_) | (with_reducible (show W _ _ _ _ _); with_reducible refine sg2 ?_ ?_ <;> intro _) | (with_reducible (show W _ _ _ _ _); with_reducible refine sc2 ?_ ?_ <;> intro _) | (with_reducible (show CallK _ _ _ _ _ _ _ _ _ _ _); with_reducible refine ce2 (power_spec hv hlen0.2) ?_) | (with_reducible (show CallK _ _ _ _ _ _ _ _ _ _ _); with_reducible refine ce2 (great_spec hv hlen0.2) ?_) | ((with_reducible (show CallK _ _ _ _ _ _ _ _ _ _ _); with_reducible refine cx2 (vunit_spec (Sl.app hv _) hI _ hlen0) ?_; rintro u H' ⟨c, hc, rfl, rfl⟩))
  · rename_i h0
    unfold nrm2M
    rw [if_neg (by rw [h0]; decide)]
  rename_i h0
  have hUl := unitL_len xs (powerM xs).1
  generalize hUe : unitL xs (powerM xs).1 = U at hUl
  refine W_for (fun j ρ H' => ∃ k : Nat, k + j = xs.length ∧ ρ 0 = nilp ∧ ρ 5 = i64 (powerM xs).1 ∧ ρ 9 = .ptr H.length 0 ∧ ρ 10 = u64 (sqsS U k).1 ∧ ρ 31 = .slice (H.length + 1) 0 xs.length c 1 ∧ ρ 32 = i64 (xs.length : Int) ∧ ρ 33 = i64 k ∧
    H' = H ++ [some ⟨[u8 (sqsS U k).2], true⟩, some ⟨U.map u64, true⟩]) xs.length ?_ ?_
  · refine ⟨0, by omega, ?_⟩
    simp [put, args0, sqsS, iter]
  rintro j ρ H' ⟨k, hk, h0', h5, h9, h10, h31, h32, h33, rfl⟩
  have f3 : ∀ m : Nat, (0 ≤ (m : Int)) = True := fun m => eq_true (by omega)
  have f5 : ∀ m : Nat, (m : Int).toNat = m := fun m => Int.toNat_natCast m
  have f6 : ∀ m : Nat, m * 1 = m := Nat.mul_one
  have f7 : (k : Int) < xs.length → (U.map u64)[k]? = some (u64 (U.getD k 0)) := fun h => by
    have : k < U.length := by omega
    simp [List.getD_eq_getElem?_getD, this]
  have hcell : ∀ (g : Int) (L : MH), hget (H ++ some ⟨[u8 g], true⟩ :: L) H.length = some ⟨[u8 g], true⟩ := fun g L => by unfold hget; simp
  have hsi := sqsS_in U k
  have e1 : (k : Int) < xs.length → IntKind.i64.wrap ((k : Int) + 1) = ((k + 1 : Nat) : Int) := fun h => by rw [wrap_i64 (by omega)]; omega
  have hsq := sqrtM_in hsi
  repeat' first | (with_reducible (show W _ _ _ _ _); with_reducible refine go2 ?_) | (with_reducible (show W _ _ _ _ _); with_reducible refine sg2 ?_ ?_ <;> intro _) | (with_reducible (show W _ _ _ _ _); with_reducible refine sc2 ?_ ?_ <;> intro _) | (with_reducible (show CallK _ _ _ _ _ _ _ _ _ _ _); with_reducible refine ce2 (Note_nil _ _ _) ?_) | (with_reducible (show CallK _ _ _ _ _ _ _ _ _ _ _); with_reducible refine ce2 (sqrt_spec hsi _) ?_) | (with_reducible (show CallK _ _ _ _ _ _ _ _ _ _ _); with_reducible refine ce2 (scale_spec hsq _ _) ?_) | ((with_reducible (show CallK _ _ _ _ _ _ _ _ _ _ _); first | (with_reducible refine cM (cmul_spec _ _ _ (hcell _ _)) ?_) | (with_reducible refine cM (cadd_spec hsi (mulM_in _ _) _ (hcell _ _)) ?_)))
  · refine ⟨j - 1, by omega, k + 1, by omega, ?_, rfl, ?_⟩ <;> rw [sqsS_succ]
  · have hk2 : k = xs.length := by omega
    subst hk2
    unfold nrm2M
    rw [if_pos (by simpa using h0), hUe]
end Go.Proofs.Ytamoljalficfgaa.M
