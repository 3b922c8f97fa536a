/- Exact numbers: trailing zeros, a shift downwards, trim. -/
import Derived.Test.YtcikcinkjbbnhaaDoorD3
import Derived.Test.YtcikcinkjbbnhaaDoorC43
set_option linter.unusedSimpArgs false
set_option linter.unusedVariables false
set_option pp.deepTerms false
set_option pp.maxSteps 1500
set_option maxRecDepth 10000
set_option maxHeartbeats 4000000
namespace Go.Proofs.YtcikcinkjbbnhaaDoor.M
open Go Go.Proofs

abbrev w32 (n : Int) : MV := .lit (.int .u32 n)
def tzIs : Option Value → Nat → Bool
  | some (.int .u8 n), s => decide (n = (s : Int))
  | _, _ => false
theorem tzIs_of {o : Option Value} {s : Nat} (h : tzIs o s = true) : o = some (.int .u8 (s : Int)) := by
  match o, h with
  | some (.int .u8 n), h =>
    have : n = (s : Int) := by simpa [tzIs] using h
    rw [this]
def tzOk (s : Nat) : Bool := decide (0 ≤ shrV .u32 (IntKind.u32.wrap (2 ^ s * 125613361)) 27) && decide (shrV .u32 (IntKind.u32.wrap (2 ^ s * 125613361)) 27 < 32) && tzIs (tabT 0 (shrV .u32 (IntKind.u32.wrap (2 ^ s * 125613361)) 27).toNat) s
theorem tz_all : (List.range 32).all tzOk = true := by kernel_rfl
theorem tz_tab {s : Nat} (hs : s < 32) : 0 ≤ shrV .u32 (IntKind.u32.wrap (2 ^ s * 125613361)) 27 ∧ shrV .u32 (IntKind.u32.wrap (2 ^ s * 125613361)) 27 < 32 ∧ tabT 0 (shrV .u32 (IntKind.u32.wrap (2 ^ s * 125613361)) 27).toNat = some (.int .u8 (s : Int)) := by
  have h := List.all_eq_true.1 tz_all s (List.mem_range.2 hs)
  simp only [tzOk, Bool.and_eq_true, decide_eq_true_eq] at h
  exact ⟨h.1.1, h.1.2, tzIs_of h.2⟩
theorem tz_spec {x : Int} {s : Nat} {m : Int} (hs : s < 32) (hx : x = 2 ^ s * (2 * m + 1)) (hr : 0 ≤ x ∧ x < 4294967296) (H : MH) : Spec Tryd.prog 85 [w32 x] H fun v H' => v = i64 (s : Int) ∧ H' = H := by
  have hl := low_bit hs hx hr
  obtain ⟨t1, t2, t3⟩ := tz_tab hs
  have hx0 : ¬ x = 0 := by
    intro e
    have h1 := tpos s
    rw [hx] at e
    rcases Int.mul_eq_zero.1 e with h | h <;> omega
  have hw : IntKind.i64.wrap (s : Int) = (s : Int) := wrap_i64 (by omega)
  have hl2 : bits .and .u32 x (IntKind.u32.wrap (0 - x)) = 2 ^ s := by rw [Int.zero_sub]; exact hl
  have z32 : ((32 : Nat) : Int) = 32 := _root_.id rfl
  have f6 : ∀ m : Nat, m * 1 = m := Nat.mul_one
  clear hx
  refine Spec.scalar (enterS Tryd.func85 [.tmp 2] ?_)
  repeat' first | (with_reducible (show W _ _ _ _ _); with_reducible refine go2 ?_) | (with_reducible (show W _ _ _ _ _); with_reducible refine sg2 ?_ ?_ <;> intro _) | (with_reducible (show W _ _ _ _ _); with_reducible refine sc2 ?_ ?_ <;> intro _)
  all_goals trivial
end Go.Proofs.YtcikcinkjbbnhaaDoor.M
