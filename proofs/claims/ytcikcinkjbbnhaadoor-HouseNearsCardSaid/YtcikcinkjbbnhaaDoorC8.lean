/- What the functions of word answer. -/
import Derived.Test.YtcikcinkjbbnhaaDoorMT
import Derived.Laws.Externs
import Derived.Laws.Cover2
set_option linter.unusedSimpArgs false
set_option linter.unusedVariables false
set_option maxRecDepth 10000
set_option maxHeartbeats 4000000


namespace Go.Proofs.YtcikcinkjbbnhaaDoor.M
open Go Go.Proofs

abbrev u64 (n : Int) : MV := .lit (.int .u64 n)
abbrev i64 (n : Int) : MV := .lit (.int .i64 n)
abbrev u8 (n : Int) : MV := .lit (.int .u8 n)
abbrev bl (b : Bool) : MV := .lit (.bool b)

def negM (b : Int) : Bool := decide (shrV .u64 b 63 = 1)
theorem neg_spec (b : Int) (H : MH) : Spec Tryd.prog 53 [u64 b] H fun v H' => v = bl (negM b) ∧ H' = H := by
  refine Spec.scalar (enterS Tryd.func53 [.tmp 2] ?_)
  repeat' first | (with_reducible (show W _ _ _ _ _); with_reducible refine go ?_) | (with_reducible (show W _ _ _ _ _); with_reducible refine sg ?_ ?_ <;> intro _) | (with_reducible (show W _ _ _ _ _); with_reducible refine sc ?_ ?_ <;> intro _)
  simp [negM]
def expM (b : Int) : Int := IntKind.i64.wrap (bits .and .u64 (shrV .u64 b 52) 2047)
theorem exp_spec (b : Int) (H : MH) : Spec Tryd.prog 59 [u64 b] H fun v H' => v = i64 (expM b) ∧ H' = H := by
  refine Spec.scalar (enterS Tryd.func59 [.tmp 2] ?_)
  repeat' first | (with_reducible (show W _ _ _ _ _); with_reducible refine go ?_) | (with_reducible (show W _ _ _ _ _); with_reducible refine sg ?_ ?_ <;> intro _) | (with_reducible (show W _ _ _ _ _); with_reducible refine sc ?_ ?_ <;> intro _)

  simp [expM]
def fracM (b : Int) : Int := bits .and .u64 b 4503599627370495
theorem frac_spec (b : Int) (H : MH) : Spec Tryd.prog 84 [u64 b] H fun v H' => v = u64 (fracM b) ∧ H' = H := by
  refine Spec.scalar (enterS Tryd.func84 [.tmp 2] ?_)
  repeat' first | (with_reducible (show W _ _ _ _ _); with_reducible refine go ?_) | (with_reducible (show W _ _ _ _ _); with_reducible refine sg ?_ ?_ <;> intro _) | (with_reducible (show W _ _ _ _ _); with_reducible refine sc ?_ ?_ <;> intro _)
  simp [fracM]
def kindM (b : Int) : Int := if expM b = 0 then (if fracM b = 0 then 1 else 2) else if expM b < 2047 then 3 else if fracM b = 0 then 4 else 5
theorem kind_spec (b : Int) (H : MH) : Spec Tryd.prog 73 [u64 b] H fun v H' => v = i64 (kindM b) ∧ H' = H := by
  refine Spec.scalar (enterS Tryd.func73 [.tmp 2] ?_)
  repeat' first | (with_reducible (show W _ _ _ _ _); with_reducible refine go ?_) | (with_reducible (show W _ _ _ _ _); with_reducible refine sg ?_ ?_ <;> intro _) | (with_reducible (show W _ _ _ _ _); with_reducible refine sc ?_ ?_ <;> intro _) | (with_reducible (show CallK _ _ _ _ _ _ _ _ _ _ _); with_reducible refine ce (exp_spec _ _) ?_) | (with_reducible (show CallK _ _ _ _ _ _ _ _ _ _ _); with_reducible refine ce (frac_spec _ _) ?_)

  all_goals simp_all [kindM]

def absM (b : Int) : Int := bits .andNot .u64 b 9223372036854775808
theorem abs_spec (b : Int) (H : MH) : Spec Tryd.prog 18 [u64 b] H fun v H' => v = u64 (absM b) ∧ H' = H := by
  refine Spec.scalar (enterS Tryd.func18 [.tmp 2] ?_)
  repeat' first | (with_reducible (show W _ _ _ _ _); with_reducible refine go ?_) | (with_reducible (show W _ _ _ _ _); with_reducible refine sg ?_ ?_ <;> intro _) | (with_reducible (show W _ _ _ _ _); with_reducible refine sc ?_ ?_ <;> intro _)
  simp [absM]
def flipM (b : Int) : Int := bits .xor .u64 b 9223372036854775808
theorem flip_spec (b : Int) (H : MH) : Spec Tryd.prog 54 [u64 b] H fun v H' => v = u64 (flipM b) ∧ H' = H := by
  refine Spec.scalar (enterS Tryd.func54 [.tmp 2] ?_)
  repeat' first | (with_reducible (show W _ _ _ _ _); with_reducible refine go ?_) | (with_reducible (show W _ _ _ _ _); with_reducible refine sg ?_ ?_ <;> intro _) | (with_reducible (show W _ _ _ _ _); with_reducible refine sc ?_ ?_ <;> intro _)
  simp [flipM]
def signM (b c : Int) : Int := bits .or .u64 (absM b) (bits .and .u64 c 9223372036854775808)
def finiteM (b : Int) : Bool := decide (expM b < 2047)
theorem finite_spec (b : Int) (H : MH) : Spec Tryd.prog 16 [u64 b] H fun v H' => v = bl (finiteM b) ∧ H' = H := by
  refine Spec.scalar (enterS Tryd.func16 [.tmp 2] ?_)
  repeat' first | (with_reducible (show W _ _ _ _ _); with_reducible refine go ?_) | (with_reducible (show W _ _ _ _ _); with_reducible refine sg ?_ ?_ <;> intro _) | (with_reducible (show W _ _ _ _ _); with_reducible refine sc ?_ ?_ <;> intro _) | (with_reducible (show CallK _ _ _ _ _ _ _ _ _ _ _); with_reducible refine ce (exp_spec _ _) ?_)
  simp [finiteM]
def signalsM (b : Int) : Bool := decide (kindM b = 5) && decide (bits .and .u64 (shrV .u64 b 51) 1 = 0)
theorem signals_spec (b : Int) (H : MH) : Spec Tryd.prog 82 [u64 b] H fun v H' => v = bl (signalsM b) ∧ H' = H := by
  refine Spec.scalar (enterS Tryd.func82 [.tmp 2] ?_)
  repeat' first | (with_reducible (show W _ _ _ _ _); with_reducible refine go ?_) | (with_reducible (show W _ _ _ _ _); with_reducible refine sg ?_ ?_ <;> intro _) | (with_reducible (show W _ _ _ _ _); with_reducible refine sc ?_ ?_ <;> intro _) | (with_reducible (show CallK _ _ _ _ _ _ _ _ _ _ _); with_reducible refine ce (kind_spec _ _) ?_)
  all_goals simp_all [signalsM]
def partsM (b : Int) : Int × Int := if kindM b = 2 then (fracM b, -1074) else if kindM b = 3 then (bits .or .u64 (fracM b) 4503599627370496, IntKind.i64.wrap (expM b - 1075)) else (0, 0)
theorem parts_spec (b : Int) (H : MH) : Spec Tryd.prog 61 [u64 b] H fun v H' => v = .tup [u64 (partsM b).1, i64 (partsM b).2] ∧ H' = H := by
  refine Spec.scalar (enterS Tryd.func61 [.tmp 2, .tmp 3] ?_)
  repeat' first | (with_reducible (show W _ _ _ _ _); with_reducible refine go ?_) | (with_reducible (show W _ _ _ _ _); with_reducible refine sg ?_ ?_ <;> intro _) | (with_reducible (show W _ _ _ _ _); with_reducible refine sc ?_ ?_ <;> intro _) | (with_reducible (show CallK _ _ _ _ _ _ _ _ _ _ _); with_reducible refine ce (kind_spec _ _) ?_) | (with_reducible (show CallK _ _ _ _ _ _ _ _ _ _ _); with_reducible refine ce (frac_spec _ _) ?_) | (with_reducible (show CallK _ _ _ _ _ _ _ _ _ _ _); with_reducible refine ce (exp_spec _ _) ?_)
  all_goals simp_all [partsM]
def makeM (neg : Bool) (e f : Int) : Int :=
  let b := bits .or .u64 (shlV .u64 (bits .and .u64 (IntKind.u64.wrap e) 2047) 52) (bits .and .u64 f 4503599627370495)
  if neg then bits .or .u64 b 9223372036854775808 else b
theorem make_spec (neg : Bool) (e f : Int) (H : MH) : Spec Tryd.prog 42 [bl neg, i64 e, u64 f] H fun v H' => v = u64 (makeM neg e f) ∧ H' = H := by
  refine Spec.scalar (enterS Tryd.func42 [.tmp 6] ?_)
  repeat' first | (with_reducible (show W _ _ _ _ _); with_reducible refine go ?_) | (with_reducible (show W _ _ _ _ _); with_reducible refine sg ?_ ?_ <;> intro _) | (with_reducible (show W _ _ _ _ _); with_reducible refine sc ?_ ?_ <;> intro _)
  all_goals simp_all [makeM]
end Go.Proofs.YtcikcinkjbbnhaaDoor.M

/- What the functions of wide, and those of math/bits beneath them, answer. -/
set_option linter.unusedSimpArgs false
set_option linter.unusedVariables false
set_option maxRecDepth 10000
set_option maxHeartbeats 2000000
namespace Go.Proofs.YtcikcinkjbbnhaaDoor.M
open Go Go.Proofs

abbrev InU (n : Int) : Prop := 0 ≤ n ∧ n < 18446744073709551616
theorem wrap_u64 (n : Int) : IntKind.u64.wrap n = n % 18446744073709551616 := by simp [IntKind.wrap, IntKind.signed, IntKind.bits]
theorem wrap_inU (n : Int) : InU (IntKind.u64.wrap n) := by rw [wrap_u64]; exact ⟨Int.emod_nonneg _ (by omega), Int.emod_lt_of_pos _ (by omega)⟩
theorem bits_inU (op : BinOp) (a b : Int) : InU (bits op .u64 a b) := wrap_inU _
theorem shl_inU (a b : Int) : InU (shlV .u64 a b) := wrap_inU _
theorem shr_inU {a : Int} (h : InU a) (b : Int) : InU (shrV .u64 a b) := by
  unfold shrV
  have hp : (0 : Int) < 2 ^ (min b.toNat IntKind.u64.bits) := Int.pow_pos (by decide)
  rw [Int.fdiv_eq_ediv_of_nonneg _ (Int.le_of_lt hp)]
  refine ⟨Int.ediv_nonneg h.1 (Int.le_of_lt hp), Int.lt_of_le_of_lt (Int.ediv_le_self _ h.1) h.2⟩

def sub64E : Array Value → Sem Value := fun args => do
  let (x, y, b) ← Extern.MathBitsCarry.three "Sub64" args
  pure (Extern.MathBitsCarry.pair ((x + Extern.MathBitsCarry.m64 - y - b) % Extern.MathBitsCarry.m64) (if x < y + b then 1 else 0))
theorem run_sub64E {P : Program} (x y b : Nat) (hb : b ≤ 1) (w : World) :
    (sub64E #[.int .u64 x, .int .u64 y, .int .u64 b]).run P w =
      .ok (.tuple #[.int .u64 (((x + 18446744073709551616 - y - b) % 18446744073709551616 : Nat) : Int), .int .u64 ((if x < y + b then 1 else 0 : Nat) : Int)]) w := by
  have : b = 0 ∨ b = 1 := by omega
  rcases this with rfl | rfl <;> rfl

theorem does_extern {P : Program} {f : FuncId} {args : List MV} {H : MH} {r : MV} (hcl : Cl 0 [] r) (h : ∀ μ w, (callFunc f (concs μ args).toArray).run P w = .ok (.value (conc (fun _ => none) r)) w) : Spec P f args H fun v H' => v = r ∧ H' = H := by
  intro μ w hr hb ha
  unfold Does
  rw [h μ w]
  have hfree : ∀ v, Cl 0 [] v → Ok μ v ∧ conc μ v = conc (fun _ => none) v := by
    intro v hv
    have hok : ∀ v, Cl 0 [] v → Ok (fun _ => none) v := ok_free
    have e := ok_mono (μ := fun _ => none) (μ' := μ) (fun p l h => by cases h) v (hok v hv)
    exact e
  exact ⟨r, H, μ, ⟨rfl, rfl⟩, (hfree r hcl).2.symm, (hfree r hcl).1, hr, Ext.refl _ _ _⟩

def add64M (a b c : Int) : Int × Int := ((a + b + c) % 18446744073709551616, (a + b + c) / 18446744073709551616)
theorem add64_spec {a b c : Int} (ha : 0 ≤ a) (hb : 0 ≤ b) (hc : 0 ≤ c ∧ c ≤ 1) (H : MH) : Spec Tryd.prog 107 [u64 a, u64 b, u64 c] H fun v H' => v = .tup [u64 (add64M a b c).1, u64 (add64M a b c).2] ∧ H' = H := by
  refine does_extern (by simp [Cl, Cls']) fun μ w => ?_
  simp only [concs, conc]
  rw [run_callFunc_extern Tryd.func107 (by kernel_rfl) (by kernel_rfl) (by kernel_rfl) (show Extern.find _ = some add64Entry from by kernel_rfl), run_add64 a b c ha hb hc.1 hc.2]
  rfl
def sub64M (a b c : Int) : Int × Int := ((a - b - c) % 18446744073709551616, if a < b + c then 1 else 0)
theorem sub64_spec {a b c : Int} (ha : 0 ≤ a) (hb : InU b) (hc : 0 ≤ c ∧ c ≤ 1) (H : MH) : Spec Tryd.prog 108 [u64 a, u64 b, u64 c] H fun v H' => v = .tup [u64 (sub64M a b c).1, u64 (sub64M a b c).2] ∧ H' = H := by
  refine does_extern (by simp [Cl, Cls']) fun μ w => ?_
  simp only [concs, conc]
  obtain ⟨x, rfl⟩ := Int.eq_ofNat_of_zero_le ha
  obtain ⟨y, rfl⟩ := Int.eq_ofNat_of_zero_le hb.1
  obtain ⟨z, rfl⟩ := Int.eq_ofNat_of_zero_le hc.1
  rw [run_callFunc_extern Tryd.func108 (by kernel_rfl) (by kernel_rfl) (by kernel_rfl) (show Extern.find _ = some sub64E from by kernel_rfl), run_sub64E x y z (by omega)]
  have e1 : (((x + 18446744073709551616 - y - z) % 18446744073709551616 : Nat) : Int) = ((x : Int) - (y : Int) - (z : Int)) % 18446744073709551616 := by have := hb.2; omega
  have e2 : ((if x < y + z then 1 else 0 : Nat) : Int) = if (x : Int) < (y : Int) + (z : Int) then 1 else 0 := by split <;> split <;> omega
  rw [e1, e2]
  rfl

abbrev W2 := Int × Int
abbrev wd (w : W2) : MV := .agg [u64 w.1, u64 w.2]
abbrev InW (w : W2) : Prop := InU w.1 ∧ InU w.2

def waddM (a b : W2) : W2 × Bool :=
  let l := add64M a.2 b.2 0
  let h := add64M a.1 b.1 l.2
  ((h.1, l.1), decide (h.2 = 1))
theorem add64_c {a b c : Int} (ha : InU a) (hb : InU b) (hc : 0 ≤ c ∧ c ≤ 1) : 0 ≤ (add64M a b c).2 ∧ (add64M a b c).2 ≤ 1 := by
  simp only [add64M]; obtain ⟨h1, h2⟩ := ha; obtain ⟨h3, h4⟩ := hb; omega
theorem wadd_spec {a b : W2} (ha : InW a) (hb : InW b) (H : MH) : Spec Tryd.prog 101 [wd a, wd b] H fun v H' => v = .tup [wd (waddM a b).1, bl (waddM a b).2] ∧ H' = H := by
  have hc := add64_c ha.2 hb.2 (c := 0) (by omega)
  have h1 := ha.1.1
  have h2 := ha.2.1
  have h3 := hb.1.1
  have h4 := hb.2.1
  refine Spec.scalar (enterS Tryd.func101 [.cell 4 116, .tmp 5] ?_)
  repeat' first | (with_reducible (show W _ _ _ _ _); with_reducible refine go ?_) | (with_reducible (show W _ _ _ _ _); with_reducible refine sg ?_ ?_ <;> intro _) | (with_reducible (show W _ _ _ _ _); with_reducible refine sc ?_ ?_ <;> intro _) | (with_reducible (show CallK _ _ _ _ _ _ _ _ _ _ _); with_reducible refine ce (add64_spec (by assumption) (by assumption) (by first | assumption | omega) _) ?_)
  all_goals simp_all [waddM]

def wsubM (a b : W2) : W2 × Bool :=
  let l := sub64M a.2 b.2 0
  let h := sub64M a.1 b.1 l.2
  ((h.1, l.1), decide (h.2 = 1))
theorem sub64_c (a b c : Int) : 0 ≤ (sub64M a b c).2 ∧ (sub64M a b c).2 ≤ 1 := by
  simp only [sub64M]; split <;> omega
theorem wsub_spec {a b : W2} (ha : InW a) (hb : InW b) (H : MH) : Spec Tryd.prog 102 [wd a, wd b] H fun v H' => v = .tup [wd (wsubM a b).1, bl (wsubM a b).2] ∧ H' = H := by
  have hc := sub64_c a.2 b.2 0
  have h1 := ha.1.1
  have h2 := ha.2.1
  have h3 := hb.1
  have h4 := hb.2
  refine Spec.scalar (enterS Tryd.func102 [.cell 4 116, .tmp 5] ?_)
  repeat' first | (with_reducible (show W _ _ _ _ _); with_reducible refine go ?_) | (with_reducible (show W _ _ _ _ _); with_reducible refine sg ?_ ?_ <;> intro _) | (with_reducible (show W _ _ _ _ _); with_reducible refine sc ?_ ?_ <;> intro _) | (with_reducible (show CallK _ _ _ _ _ _ _ _ _ _ _); with_reducible refine ce (sub64_spec (by assumption) (by assumption) (by first | assumption | omega) _) ?_)
  all_goals simp_all [wsubM]
theorem waddM_in (a b : W2) : InW (waddM a b).1 := by
  simp only [waddM, add64M, InW, InU]; omega
theorem wsubM_in (a b : W2) : InW (wsubM a b).1 := by
  simp only [wsubM, sub64M, InW, InU]; omega

def wzeroM (a : W2) : Bool := decide (bits .or .u64 a.1 a.2 = 0)
theorem wzero_spec (a : W2) (H : MH) : Spec Tryd.prog 98 [wd a] H fun v H' => v = bl (wzeroM a) ∧ H' = H := by
  refine Spec.scalar (enterS Tryd.func98 [.tmp 2] ?_)
  repeat' first | (with_reducible (show W _ _ _ _ _); with_reducible refine go ?_) | (with_reducible (show W _ _ _ _ _); with_reducible refine sg ?_ ?_ <;> intro _) | (with_reducible (show W _ _ _ _ _); with_reducible refine sc ?_ ?_ <;> intro _)
  all_goals simp_all [wzeroM]
def wcmpM (a b : W2) : Int := if a.1 < b.1 ∨ a.1 = b.1 ∧ a.2 < b.2 then -1 else if a.1 = b.1 ∧ a.2 = b.2 then 0 else 1
theorem wcmp_spec (a b : W2) (H : MH) : Spec Tryd.prog 105 [wd a, wd b] H fun v H' => v = i64 (wcmpM a b) ∧ H' = H := by
  refine Spec.scalar (enterS Tryd.func105 [.tmp 4] ?_)
  repeat' first | (with_reducible (show W _ _ _ _ _); with_reducible refine go ?_) | (with_reducible (show W _ _ _ _ _); with_reducible refine sg ?_ ?_ <;> intro _) | (with_reducible (show W _ _ _ _ _); with_reducible refine sc ?_ ?_ <;> intro _)
  all_goals simp_all [wcmpM]
def wleftM (a : W2) (n : Int) : W2 := if n ≤ 0 then a else if 128 ≤ n then (0, 0) else if 64 ≤ n then (shlV .u64 a.2 (IntKind.i64.wrap (n - 64)), 0) else
  (bits .or .u64 (shlV .u64 a.1 n) (shrV .u64 a.2 (IntKind.i64.wrap (64 - n))), shlV .u64 a.2 n)
theorem wrap_i64 {n : Int} (h : -9223372036854775808 ≤ n ∧ n < 9223372036854775808) : IntKind.i64.wrap n = n := by
  simp only [IntKind.wrap, IntKind.signed, IntKind.bits]
  simp
  split <;> omega
theorem wleft_spec (a : W2) (n : Int) (H : MH) : Spec Tryd.prog 93 [wd a, i64 n] H fun v H' => v = wd (wleftM a n) ∧ H' = H := by
  have h1 : ¬ 128 ≤ n → 64 ≤ n → ¬ IntKind.i64.wrap (n - 64) < 0 := fun a b => by rw [wrap_i64 (by omega)]; omega
  have h2 : ¬ n ≤ 0 → ¬ 64 ≤ n → ¬ n < 0 := fun a b => by omega
  have h3 : ¬ n ≤ 0 → ¬ 64 ≤ n → ¬ IntKind.i64.wrap (64 - n) < 0 := fun a b => by rw [wrap_i64 (by omega)]; omega
  refine Spec.scalar (enterS Tryd.func93 [.cell 4 116] ?_)
  repeat' first | (with_reducible (show W _ _ _ _ _); with_reducible refine go ?_) | (with_reducible (show W _ _ _ _ _); with_reducible refine sg ?_ ?_ <;> intro _) | (with_reducible (show W _ _ _ _ _); with_reducible refine sc ?_ ?_ <;> intro _) | (with_reducible (show W _ _ (.code (.region 7 _ true) :: _) _ _); with_reducible refine W_draw [(0, []), (1, []), (2, []), (3, []), (4, []), (5, []), (6, []), (7, []), (8, []), (9, []), (10, []), (11, []), (12, []), (13, []), (14, []), (15, [])] [] (by kernel_rfl) ?_)
  all_goals simp [wleftM, *]

def wrightV (a : W2) (n : Int) : W2 := if n ≤ 0 then a else if 128 ≤ n then (0, 0) else if 64 ≤ n then (0, shrV .u64 a.1 (IntKind.i64.wrap (n - 64))) else
  (shrV .u64 a.1 n, bits .or .u64 (shlV .u64 a.1 (IntKind.i64.wrap (64 - n))) (shrV .u64 a.2 n))
def wrightM (a : W2) (n : Int) : W2 × Bool := if n ≤ 0 then (a, false) else
  let o := wrightV a n
  (o, (!(decide ((wleftM o n).1 = a.1) && decide ((wleftM o n).2 = a.2))) || (decide (128 ≤ n) && !wzeroM a))
theorem wright_spec (a : W2) (n : Int) (H : MH) : Spec Tryd.prog 99 [wd a, i64 n] H fun v H' => v = .tup [wd (wrightM a n).1, bl (wrightM a n).2] ∧ H' = H := by
  have h1 : ¬ 128 ≤ n → 64 ≤ n → ¬ IntKind.i64.wrap (n - 64) < 0 := fun a b => by rw [wrap_i64 (by omega)]; omega
  have h2 : ¬ n ≤ 0 → ¬ 64 ≤ n → ¬ n < 0 := fun a b => by omega
  have h3 : ¬ n ≤ 0 → ¬ 64 ≤ n → ¬ IntKind.i64.wrap (64 - n) < 0 := fun a b => by rw [wrap_i64 (by omega)]; omega
  refine Spec.scalar (enterS Tryd.func99 [.cell 4 116, .tmp 5] ?_)
  repeat' first | (with_reducible (show W _ _ _ _ _); with_reducible refine go ?_) | (with_reducible (show W _ _ _ _ _); with_reducible refine sg ?_ ?_ <;> intro _) | (with_reducible (show W _ _ _ _ _); with_reducible refine sc ?_ ?_ <;> intro _) | (with_reducible (show CallK _ _ _ _ _ _ _ _ _ _ _); with_reducible refine ce (wleft_spec (_, _) _ _) ?_) | (with_reducible (show CallK _ _ _ _ _ _ _ _ _ _ _); with_reducible refine ce (wzero_spec _ _) ?_) | (with_reducible (show W _ _ (.code (.region 2 _ true) :: _) _ _); with_reducible refine W_draw [(0, []), (1, []), (2, []), (3, []), (4, []), (5, []), (6, []), (7, []), (8, []), (9, []), (10, []), (11, []), (12, []), (13, []), (14, []), (15, [])] [] (by kernel_rfl) ?_) | (with_reducible (show W _ _ (.code (.region 8 _ true) :: _) _ _); with_reducible refine W_draw [(0, []), (1, []), (2, []), (4, []), (3, [0, 4]), (5, []), (6, []), (7, []), (8, []), (9, []), (10, []), (11, [0]), (12, []), (13, []), (14, []), (15, []), (16, [])] [0, 4] (by kernel_rfl) ?_)
  all_goals simp [wrightM, wrightV, *]
def LEN8 : List Nat := [0, 1, 2, 2, 3, 3, 3, 3, 4, 4, 4, 4, 4, 4, 4, 4, 5, 5, 5, 5, 5, 5, 5, 5, 5, 5, 5, 5, 5, 5, 5, 5, 6, 6, 6, 6, 6, 6, 6, 6, 6, 6, 6, 6, 6, 6, 6, 6, 6, 6, 6, 6, 6, 6, 6, 6, 6, 6, 6, 6, 6, 6, 6, 6, 7, 7, 7, 7, 7, 7, 7, 7, 7, 7, 7, 7, 7, 7, 7, 7, 7, 7, 7, 7, 7, 7, 7, 7, 7, 7, 7, 7, 7, 7, 7, 7, 7, 7, 7, 7, 7, 7, 7, 7, 7, 7, 7, 7, 7, 7, 7, 7, 7, 7, 7, 7, 7, 7, 7, 7, 7, 7, 7, 7, 7, 7, 7, 7, 8, 8, 8, 8, 8, 8, 8, 8, 8, 8, 8, 8, 8, 8, 8, 8, 8, 8, 8, 8, 8, 8, 8, 8, 8, 8, 8, 8, 8, 8, 8, 8, 8, 8, 8, 8, 8, 8, 8, 8, 8, 8, 8, 8, 8, 8, 8, 8, 8, 8, 8, 8, 8, 8, 8, 8, 8, 8, 8, 8, 8, 8, 8, 8, 8, 8, 8, 8, 8, 8, 8, 8, 8, 8, 8, 8, 8, 8, 8, 8, 8, 8, 8, 8, 8, 8, 8, 8, 8, 8, 8, 8, 8, 8, 8, 8, 8, 8, 8, 8, 8, 8, 8, 8, 8, 8, 8, 8, 8, 8, 8, 8, 8, 8, 8, 8, 8, 8, 8, 8, 8, 8, 8, 8, 8, 8, 8, 8]
def tabM (y : Int) : Int := (LEN8.getD (IntKind.u8.wrap y).toNat 0 : Nat)
theorem wrap_u8 (n : Int) : 0 ≤ IntKind.u8.wrap n ∧ IntKind.u8.wrap n < 256 := by
  simp [IntKind.wrap, IntKind.signed, IntKind.bits]; omega
theorem tab_ix {S : ByteArray} (hS : S.data.toList.map (·.toNat) = LEN8) {y : Int} : ixV .string (.lit (.string S)) (.lit (.int .u8 (IntKind.u8.wrap y))) = some (u8 (tabM y)) := by
  have h := wrap_u8 y
  have hj : (IntKind.u8.wrap y).toNat < 256 := by omega
  have hlen : S.data.size = 256 := by
    have := congrArg List.length hS
    simpa [LEN8] using this
  rw [ixV_string, if_pos h.1]
  have hlt : (IntKind.u8.wrap y).toNat < S.size := by rw [ByteArray.size]; omega
  have hb : S[(IntKind.u8.wrap y).toNat]? = some (S.data[(IntKind.u8.wrap y).toNat]'(by omega)) := by
    rw [getElem?_pos S _ hlt]; rfl
  rw [hb]
  have hv : LEN8.getD (IntKind.u8.wrap y).toNat 0 = (S.data[(IntKind.u8.wrap y).toNat]'(by omega)).toNat := by
    rw [← hS]; simp [List.getD, hlen, hj]
  simp only [tabM, hv, Option.map_some]
def len1 (n x : Int) : Int := IntKind.i64.wrap (n + IntKind.i64.wrap (tabM x))
def len8 (n x : Int) : Int := if 256 ≤ x then len1 (IntKind.i64.wrap (n + 8)) (shrV .u64 x 8) else len1 n x
def len16 (n x : Int) : Int := if 65536 ≤ x then len8 (IntKind.i64.wrap (n + 16)) (shrV .u64 x 16) else len8 n x
def lenM (x : Int) : Int := if 4294967296 ≤ x then len16 32 (shrV .u64 x 32) else len16 0 x
theorem len_spec {x : Int} (hx : InU x) (H : MH) : Spec Tryd.prog 92 [u64 x] H fun v H' => v = i64 (lenM x) ∧ H' = H := by
  refine Spec.scalar (enterS Tryd.func92 [.tmp 2] ?_)
  repeat' first | (with_reducible (show W _ _ _ _ _); with_reducible refine go ?_) | (with_reducible (show W _ _ _ _ _); with_reducible refine sg ?_ ?_ <;> intro _) | (with_reducible (show W _ _ _ _ _); with_reducible refine sc ?_ ?_ <;> intro _) | (rw [tab_ix]; rotate_left; kernel_rfl) | (refine goA ?_)

  all_goals simp [lenM, len16, len8, len1, *]
end Go.Proofs.YtcikcinkjbbnhaaDoor.M

/- What the functions of wide that go over several, and of round, answer. -/
set_option linter.unusedSimpArgs false
set_option linter.unusedVariables false
set_option maxRecDepth 10000
set_option maxHeartbeats 2000000
namespace Go.Proofs.YtcikcinkjbbnhaaDoor.M
open Go Go.Proofs

def wlenM (a : W2) : Int := if a.1 = 0 then lenM a.2 else IntKind.i64.wrap (64 + lenM a.1)
theorem wlen_spec {a : W2} (ha : InW a) (H : MH) : Spec Tryd.prog 96 [wd a] H fun v H' => v = i64 (wlenM a) ∧ H' = H := by
  have h1 := ha.1
  have h2 := ha.2
  refine Spec.scalar (enterS Tryd.func96 [.tmp 2] ?_)
  repeat' first | (with_reducible (show W _ _ _ _ _); with_reducible refine go ?_) | (with_reducible (show W _ _ _ _ _); with_reducible refine sg ?_ ?_ <;> intro _) | (with_reducible (show W _ _ _ _ _); with_reducible refine sc ?_ ?_ <;> intro _) | (with_reducible (show CallK _ _ _ _ _ _ _ _ _ _ _); with_reducible refine ce (len_spec (by assumption) _) ?_)
  all_goals simp [wlenM, *]

def mul64M (x y : Int) : Int × Int :=
  let x0 := bits .and .u64 x 4294967295
  let x1 := shrV .u64 x 32
  let y0 := bits .and .u64 y 4294967295
  let y1 := shrV .u64 y 32
  let w0 := IntKind.u64.wrap (x0 * y0)
  let t := IntKind.u64.wrap (IntKind.u64.wrap (x1 * y0) + shrV .u64 w0 32)
  let w1 := bits .and .u64 t 4294967295
  let w2 := shrV .u64 t 32
  let w1 := IntKind.u64.wrap (w1 + IntKind.u64.wrap (x0 * y1))
  (IntKind.u64.wrap (IntKind.u64.wrap (IntKind.u64.wrap (x1 * y1) + w2) + shrV .u64 w1 32), IntKind.u64.wrap (x * y))
theorem mul64_spec (x y : Int) (H : MH) : Spec Tryd.prog 109 [u64 x, u64 y] H fun v H' => v = .tup [u64 (mul64M x y).1, u64 (mul64M x y).2] ∧ H' = H := by
  refine Spec.scalar (enterS Tryd.func109 [.tmp 4, .tmp 5] ?_)
  repeat' first | (with_reducible (show W _ _ _ _ _); with_reducible refine go ?_) | (with_reducible (show W _ _ _ _ _); with_reducible refine sg ?_ ?_ <;> intro _) | (with_reducible (show W _ _ _ _ _); with_reducible refine sc ?_ ?_ <;> intro _)
  all_goals simp [mul64M, *]
theorem mul64_in (x y : Int) : InW (mul64M x y) := ⟨wrap_inU _, wrap_inU _⟩
theorem wmul_spec (x y : Int) (H : MH) : Spec Tryd.prog 103 [u64 x, u64 y] H fun v H' => v = wd (mul64M x y) ∧ H' = H := by
  refine Spec.scalar (enterS Tryd.func103 [.cell 4 116] ?_)
  repeat' first | (with_reducible (show W _ _ _ _ _); with_reducible refine go ?_) | (with_reducible (show W _ _ _ _ _); with_reducible refine sg ?_ ?_ <;> intro _) | (with_reducible (show W _ _ _ _ _); with_reducible refine sc ?_ ?_ <;> intro _) | (with_reducible (show CallK _ _ _ _ _ _ _ _ _ _ _); with_reducible refine ce (mul64_spec _ _ _) ?_)
  all_goals simp [*]

def splitM (w : W2) (drop : Int) (fell : Bool) : Bool × Bool := if 128 < drop then (false, fell) else
  let u := wrightM w (IntKind.i64.wrap (drop - 1))
  (decide (bits .and .u64 u.1.2 1 = 1), u.2)
theorem split_spec (w : W2) (drop : Int) (fell : Bool) (H : MH) : Spec Tryd.prog 100 [wd w, i64 drop, bl fell] H fun v H' => v = .tup [bl (splitM w drop fell).1, bl (splitM w drop fell).2] ∧ H' = H := by
  refine Spec.scalar (enterS Tryd.func100 [.tmp 6, .tmp 7] ?_)
  repeat' first | (with_reducible (show W _ _ _ _ _); with_reducible refine go ?_) | (with_reducible (show W _ _ _ _ _); with_reducible refine sg ?_ ?_ <;> intro _) | (with_reducible (show W _ _ _ _ _); with_reducible refine sc ?_ ?_ <;> intro _) | (with_reducible (show CallK _ _ _ _ _ _ _ _ _ _ _); with_reducible refine ce (wright_spec _ _ _) ?_)

  all_goals simp [splitM, *]
end Go.Proofs.YtcikcinkjbbnhaaDoor.M

/- What round.Round answers. -/
set_option linter.unusedSimpArgs false
set_option linter.unusedVariables false
set_option maxRecDepth 10000
set_option maxHeartbeats 20000000
namespace Go.Proofs.YtcikcinkjbbnhaaDoor.M
open Go Go.Proofs

theorem wright_in {a : W2} (ha : InW a) (n : Int) : InW (wrightM a n).1 := by
  have z : InU 0 := by constructor <;> omega
  have h : InW (wrightV a n) := by
    unfold wrightV
    by_cases h1 : n ≤ 0
    · rw [if_pos h1]; exact ha
    · rw [if_neg h1]
      by_cases h2 : 128 ≤ n
      · rw [if_pos h2]; exact ⟨z, z⟩
      · rw [if_neg h2]
        by_cases h3 : 64 ≤ n
        · rw [if_pos h3]; exact ⟨z, shr_inU ha.1 _⟩
        · rw [if_neg h3]; refine ⟨?_, ?_⟩; exact shr_inU ha.1 _; dsimp only; exact bits_inU _ _ _
  unfold wrightM
  by_cases h1 : n ≤ 0
  · rw [if_pos h1]; exact ha
  · rw [if_neg h1]; exact h
theorem wleft_in {a : W2} (ha : InW a) (n : Int) : InW (wleftM a n) := by
  have z : InU 0 := by constructor <;> omega
  unfold wleftM
  by_cases h1 : n ≤ 0
  · rw [if_pos h1]; exact ha
  · rw [if_neg h1]
    by_cases h2 : 128 ≤ n
    · rw [if_pos h2]; exact ⟨z, z⟩
    · rw [if_neg h2]
      by_cases h3 : 64 ≤ n
      · rw [if_pos h3]; exact ⟨shl_inU _ _, z⟩
      · rw [if_neg h3]; refine ⟨?_, ?_⟩; dsimp only; exact bits_inU _ _ _; exact shl_inU _ _

def clampM (e : Int) : Int := if -100000 < (if 100000 < e then 100000 else e) then (if 100000 < e then 100000 else e) else -100000
def round1 (w : W2) (drop : Int) (more : Bool) : W2 × Bool :=
  if 0 < drop then
    let r := wrightM w drop
    let s := splitM w drop r.2
    (if s.1 && (s.2 || more || decide (bits .and .u64 r.1.2 1 = 1)) then (waddM r.1 (0, 1)).1 else r.1, s.1 || s.2 || more)
  else if drop < 0 then (wleftM w (IntKind.i64.wrap (0 - drop)), more) else (w, more)
def round2 (m : Int) (exp : Int) : Int × Int := if m = 9007199254740992 then (shrV .u64 m 1, IntKind.i64.wrap (exp + 1)) else (m, exp)
def round3 (neg : Bool) (m exp : Int) (lost tiny : Bool) : Int × Int :=
  let f := if lost then (if tiny then bits .or .u8 (bits .or .u8 0 1) 2 else bits .or .u8 0 1) else 0
  if m < 4503599627370496 then (makeM neg 0 m, f) else if 2047 ≤ IntKind.i64.wrap (exp + 1075) then (makeM neg 2047 0, bits .or .u8 (bits .or .u8 f 4) 1) else (makeM neg (IntKind.i64.wrap (exp + 1075)) m, f)
def roundM (neg : Bool) (w : W2) (exp0 : Int) (more : Bool) : Int × Int :=
  let exp := clampM exp0
  if wzeroM w then (makeM neg 0 0, if more then 3 else 0) else
    let drop0 := IntKind.i64.wrap (wlenM w - 53)
    let tiny := decide (IntKind.i64.wrap (exp + wlenM w) < -1021)
    let drop := if IntKind.i64.wrap (exp + drop0) < -1074 then IntKind.i64.wrap (-1074 - exp) else drop0
    let u := round1 w drop more
    let v := round2 u.1.2 (IntKind.i64.wrap (exp + drop))
    round3 neg v.1 v.2 u.2 tiny
/-- An equation that the walk does not see. -/
def Is {T : Type} (x y : T) : Prop := x = y
theorem round_spec (neg : Bool) {w : W2} (hw : InW w) (exp : Int) (more : Bool) (H : MH) : Spec Tryd.prog 83 [bl neg, wd w, i64 exp, bl more] H fun v H' => v = .tup [u64 (roundM neg w exp more).1, u8 (roundM neg w exp more).2] ∧ H' = H := by
  have hl := wlen_spec hw
  have hr := fun n => wright_in hw n
  have hb : bits .and .u64 9007199254740992 1 = 0 := by decide
  have hz : InW (0, 1) := by refine ⟨⟨?_, ?_⟩, ⟨?_, ?_⟩⟩ <;> simp
  refine Spec.scalar (enterS Tryd.func83 [.tmp 8, .tmp 9] ?_)
  obtain ⟨e, he⟩ : ∃ e, Is e (clampM exp) := ⟨_, rfl⟩
  repeat' first | (with_reducible (show W _ _ _ _ _); with_reducible refine go ?_) | (with_reducible (show W _ _ _ _ _); with_reducible refine sg ?_ ?_ <;> intro _) | (with_reducible (show CallK _ _ _ _ _ _ _ _ _ _ _); with_reducible refine ce (wzero_spec _ _) ?_)
  refine sc ?_ ?_ <;> intro hzero
  · repeat' first | (with_reducible (show W _ _ _ _ _); with_reducible refine go ?_) | (with_reducible (show W _ _ _ _ _); with_reducible refine sg ?_ ?_ <;> intro _) | (with_reducible (show W _ _ _ _ _); with_reducible refine sc ?_ ?_ <;> intro _) | (with_reducible (show CallK _ _ _ _ _ _ _ _ _ _ _); with_reducible refine ce (make_spec _ _ _ _) ?_)
    all_goals simp [roundM, *]
  repeat' first | (with_reducible (show W _ _ _ _ _); with_reducible refine go ?_) | (with_reducible (show W _ _ _ _ _); with_reducible refine sg ?_ ?_ <;> intro _) | (with_reducible (show CallK _ _ _ _ _ _ _ _ _ _ _); with_reducible refine ce (hl _) ?_)
  refine W_cut (fun ρ H' => ρ 0 = bl neg ∧ ρ 2 = i64 (clampM exp) ∧ ρ 3 = bl more ∧ ρ 5 = .ptr H.length 0 ∧ ρ 10 = i64 (if IntKind.i64.wrap (clampM exp + IntKind.i64.wrap (wlenM w - 53)) < -1074 then IntKind.i64.wrap (-1074 - clampM exp) else IntKind.i64.wrap (wlenM w - 53)) ∧
    ρ 11 = bl (decide (IntKind.i64.wrap (clampM exp + wlenM w) < -1021)) ∧ H' = H ++ [some ⟨[u64 w.1, u64 w.2], true⟩]) ?_ ?_
  · repeat' first | (with_reducible (show W _ _ _ _ _); with_reducible refine go ?_) | (with_reducible (show W _ _ _ _ _); with_reducible refine sg ?_ ?_ <;> intro _) | (with_reducible (show W _ _ _ _ _); with_reducible refine sc ?_ ?_ <;> intro _)
    all_goals (simp [clampM, *]; exact decide_eq_decide.2 Iff.rfl)
  rintro ρ H' ⟨h0, h2, h3, h5, h10, h11, rfl⟩
  have goal : roundM neg w exp more = (let d := (if IntKind.i64.wrap (clampM exp + IntKind.i64.wrap (wlenM w - 53)) < -1074 then IntKind.i64.wrap (-1074 - clampM exp) else IntKind.i64.wrap (wlenM w - 53)); let u := round1 w d more
      let v := round2 u.1.2 (IntKind.i64.wrap (clampM exp + d)); round3 neg v.1 v.2 u.2 (decide (IntKind.i64.wrap (clampM exp + wlenM w) < -1021))) := by
    unfold roundM
    rw [if_neg hzero]
  rw [goal]
  clear goal hl he
  generalize (if IntKind.i64.wrap (clampM exp + IntKind.i64.wrap (wlenM w - 53)) < -1074 then IntKind.i64.wrap (-1074 - clampM exp) else IntKind.i64.wrap (wlenM w - 53)) = d at h10 ⊢
  generalize decide (IntKind.i64.wrap (clampM exp + wlenM w) < -1021) = tiny at h11 ⊢
  generalize clampM exp = e at h2 ⊢
  dsimp only
  repeat' first | (with_reducible (show W _ _ _ _ _); with_reducible refine go ?_) | (with_reducible (show W _ _ _ _ _); with_reducible refine sg ?_ ?_ <;> intro _)
  refine W_cut (fun ρ H' => ρ 0 = bl neg ∧ ρ 2 = i64 e ∧ ρ 5 = .ptr H.length 0 ∧ ρ 10 = i64 d ∧ ρ 11 = bl tiny ∧ ρ 12 = bl (round1 w d more).2 ∧ ∃ J, H' = H ++ some ⟨[u64 (round1 w d more).1.1, u64 (round1 w d more).1.2], true⟩ :: J) ?_ ?_
  · repeat' first | (with_reducible (show W _ _ _ _ _); with_reducible refine go ?_) | (with_reducible (show W _ _ _ _ _); with_reducible refine sg ?_ ?_ <;> intro _) | (with_reducible (show W _ _ _ _ _); with_reducible refine sc ?_ ?_ <;> intro _) | (with_reducible (show CallK _ _ _ _ _ _ _ _ _ _ _); with_reducible refine ce (wright_spec _ _ _) ?_) | (with_reducible (show CallK _ _ _ _ _ _ _ _ _ _ _); with_reducible refine ce (split_spec _ _ _ _) ?_) | (with_reducible (show CallK _ _ _ _ _ _ _ _ _ _ _); with_reducible refine ce (wadd_spec (hr _) hz _) ?_) | (with_reducible (show CallK _ _ _ _ _ _ _ _ _ _ _); with_reducible refine ce (wleft_spec _ _ _) ?_)
    all_goals simp [round1, -Int.zero_sub, *]
  clear h0 h2 h3 h5 h10 h11
  rintro ρ H' ⟨h0, h2, h5, h10, h11, h12, J, rfl⟩
  generalize round1 w d more = u at h12 ⊢
  obtain ⟨⟨u1, u2⟩, lost⟩ := u
  dsimp only at h12 ⊢
  have e1 : hget (H ++ some ⟨[u64 u1, u64 u2], true⟩ :: J) H.length = some ⟨[u64 u1, u64 u2], true⟩ := hget_new'
  repeat' first | (with_reducible (show W _ _ _ _ _); with_reducible refine go ?_) | (with_reducible (show W _ _ _ _ _); with_reducible refine sg ?_ ?_ <;> intro _)
  refine W_cut (fun ρ H' => ρ 0 = bl neg ∧ ρ 11 = bl tiny ∧ ρ 12 = bl lost ∧ ρ 16 = u64 (round2 u2 (IntKind.i64.wrap (e + d))).1 ∧ ρ 2 = i64 (round2 u2 (IntKind.i64.wrap (e + d))).2 ∧ ∃ J, H' = H ++ J) ?_ ?_
  · repeat' first | (with_reducible (show W _ _ _ _ _); with_reducible refine go ?_) | (with_reducible (show W _ _ _ _ _); with_reducible refine sg ?_ ?_ <;> intro _) | (with_reducible (show W _ _ _ _ _); with_reducible refine sc ?_ ?_ <;> intro _)
    all_goals simp [round2, *]
  clear h0 h2 h5 h10 h11 h12 e1
  rintro ρ H' ⟨h0, h11, h12, h16, h2, J', rfl⟩
  generalize round2 u2 (IntKind.i64.wrap (e + d)) = v at h16 h2 ⊢
  obtain ⟨m, x⟩ := v
  dsimp only at h16 h2 ⊢
  repeat' first | (with_reducible (show W _ _ _ _ _); with_reducible refine go ?_) | (with_reducible (show W _ _ _ _ _); with_reducible refine sg ?_ ?_ <;> intro _) | (with_reducible (show W _ _ _ _ _); with_reducible refine sc ?_ ?_ <;> intro _) | (with_reducible (show CallK _ _ _ _ _ _ _ _ _ _ _); with_reducible refine ce (make_spec _ _ _ _) ?_)
  all_goals simp [round3, *]
end Go.Proofs.YtcikcinkjbbnhaaDoor.M

/- What the functions of soft answer. -/
set_option linter.unusedSimpArgs false
set_option linter.unusedVariables false
set_option maxRecDepth 10000
set_option maxHeartbeats 20000000
namespace Go.Proofs.YtcikcinkjbbnhaaDoor.M
open Go Go.Proofs

def nan1 (a : Int) (r : Int × Bool) : Int × Bool := if kindM a = 5 then (if signalsM a then 16 else r.1, true) else r
def nanM (a b : Int) : Int × Bool := nan1 b (nan1 a (0, false))
theorem nan_spec (a b : Int) {H : MH} {p c z : Nat} {rw : Bool} (hp : hget H p = some ⟨[u64 a, u64 b], rw⟩) : Spec Tryd.prog 95 [.slice p 0 2 c z] H fun v H' => v = .tup [u64 9221120237041090560, u8 (nanM a b).1, bl (nanM a b).2] ∧ H' = H := by
  have w1 : IntKind.i64.wrap (0 + 1) = 1 := by decide
  have w2 : IntKind.i64.wrap (1 + 1) = 2 := by decide
  have c2 : ((2 : Nat) : Int) = 2 := _root_.id rfl
  have t0 : (0 : Int).toNat = 0 := _root_.id rfl
  have t1 : (1 : Int).toNat = 1 := _root_.id rfl
  refine Spec.scalar (enterS Tryd.func95 [.tmp 2, .tmp 3, .tmp 4] ?_)
  repeat' first | (with_reducible (show W _ _ _ _ _); with_reducible refine go ?_) | (with_reducible (show W _ _ _ _ _); with_reducible refine sg ?_ ?_ <;> intro _) | (with_reducible (show W _ _ _ _ _); with_reducible refine sc ?_ ?_ <;> intro _) | (with_reducible (show CallK _ _ _ _ _ _ _ _ _ _ _); with_reducible refine ce (kind_spec _ _) ?_) | (with_reducible (show CallK _ _ _ _ _ _ _ _ _ _ _); with_reducible refine ce (signals_spec _ _) ?_) | (refine W_loop_n 3 ?_)
  all_goals simp [nanM, nan1, *]

theorem slice_new {H : MH} {x y : MV} {rw : Bool} : hget (H ++ [some ⟨[x, y], rw⟩]) H.length = some ⟨[x, y], rw⟩ := hget_new'

theorem parts_in {a : Int} (ha : InU a) : InU (partsM a).1 := by
  have z : InU 0 := by constructor <;> omega
  unfold partsM
  split
  · dsimp only; exact bits_inU _ _ _
  · split
    · dsimp only; exact bits_inU _ _ _
    · exact z
theorem bsV_two (e : Nat) (z : Value) (c : Bool) (k : IntKind) (x y : Int) : bsV (.slice 1 e (some [z]) c) 2 [(0, .lit (.int k x)), (1, .lit (.int k y))] = some ([.lit (.int k x), .lit (.int k y)], 1) := by
  simp [bsV, fillM, cellsM]
  first | done | exact ⟨by decide, rfl⟩ | rfl
def mulM (a b : Int) : Int × Int :=
  if (nanM a b).2 then (9221120237041090560, (nanM a b).1) else
    let neg := !(negM a == negM b)
    if (kindM a = 4 ∧ kindM b = 1) ∨ (kindM a = 1 ∧ kindM b = 4) then (9221120237041090560, 16) else
    if kindM a = 4 ∨ kindM b = 4 then (makeM neg 2047 0, 0) else
    roundM neg (mul64M (partsM a).1 (partsM b).1) (IntKind.i64.wrap ((partsM a).2 + (partsM b).2)) false
theorem mul_spec (a b : Int) (H : MH) : Spec Tryd.prog 88 [u64 a, u64 b] H fun v H' => v = .tup [u64 (mulM a b).1, u8 (mulM a b).2] ∧ H' = H := by
  have hm := fun x y => mul64_in x y
  have hb := bsV_two
  refine Spec.scalar (enterS Tryd.func88 [.tmp 4, .tmp 5] ?_)
  repeat' first | (with_reducible (show W _ _ _ _ _); with_reducible refine go ?_) | (with_reducible (show W _ _ _ _ _); with_reducible refine sg ?_ ?_ <;> intro _) | (with_reducible (show W _ _ _ _ _); with_reducible refine sc ?_ ?_ <;> intro _) | (with_reducible (show CallK _ _ _ _ _ _ _ _ _ _ _); with_reducible refine ce (nan_spec _ _ slice_new) ?_) | (with_reducible (show CallK _ _ _ _ _ _ _ _ _ _ _); with_reducible refine ce (neg_spec _ _) ?_) | (with_reducible (show CallK _ _ _ _ _ _ _ _ _ _ _); with_reducible refine ce (kind_spec _ _) ?_) | (with_reducible (show CallK _ _ _ _ _ _ _ _ _ _ _); with_reducible refine ce (make_spec _ _ _ _) ?_) | (with_reducible (show CallK _ _ _ _ _ _ _ _ _ _ _); with_reducible refine ce (parts_spec _ _) ?_) | (with_reducible (show CallK _ _ _ _ _ _ _ _ _ _ _); with_reducible refine ce (wmul_spec _ _ _) ?_) | (with_reducible (show CallK _ _ _ _ _ _ _ _ _ _ _); with_reducible refine ce (round_spec _ (hm _ _) _ _ _) ?_)
  all_goals simp [mulM, *]

end Go.Proofs.YtcikcinkjbbnhaaDoor.M

/- What soft.Add and soft.Sub answer. -/
set_option linter.unusedSimpArgs false
set_option linter.unusedVariables false
set_option maxRecDepth 10000
set_option maxHeartbeats 20000000
namespace Go.Proofs.YtcikcinkjbbnhaaDoor.M
open Go Go.Proofs

def add2 (a b : Int) : Int × Int :=
  let p := wleftM (0, (partsM a).1) 64
  let q := wrightM (wleftM (0, (partsM b).1) 64) (IntKind.i64.wrap ((partsM a).2 - (partsM b).2))
  let e := IntKind.i64.wrap ((partsM a).2 - 64)
  if negM a = negM b then roundM (negM a) (waddM p q.1).1 e q.2 else
    let s := (wsubM p (if q.2 then (waddM q.1 (0, 1)).1 else q.1)).1
    if wzeroM s = true ∧ q.2 = false then (0, 0) else roundM (negM a) s e q.2
def addM (a b : Int) : Int × Int :=
  if (nanM a b).2 then (9221120237041090560, (nanM a b).1) else
  if kindM a = 4 ∧ kindM b = 4 ∧ a ≠ b then (9221120237041090560, 16) else
  if kindM a = 4 then (a, 0) else if kindM b = 4 then (b, 0) else
  if kindM a = 1 ∧ kindM b = 1 then (bits .and .u64 a b, 0) else
  if kindM a = 1 then (b, 0) else if kindM b = 1 then (a, 0) else
  if absM a < absM b then add2 b a else add2 a b
/-! Calls of which the answer is named anew, with what is known of it. -/
theorem held_none (P : Program) (H : MH) : ∀ F, held P [] H F
  | [] => by simp [held]
  | x :: F => by simp [held]; exact held_none P H F
theorem cL {g : FuncId} {Q : MQ} {k : List It} {ρ : Env} {H : MH} {args : List MV} {d l F} {r0 : W2} (hs : Spec Tryd.prog g args H fun v H' => v = wd r0 ∧ H' = H) (hc : InW r0)
    (h : ∀ r, InW r → Is r r0 → W Tryd.prog Q (.run l F :: k) (put ρ d (wd r)) H) : CallK Tryd.prog Q (.fn (.func g) [] []) args d [] l F k ρ H := CallK_eq hs (held_none _ _ _) (h r0 hc rfl)
theorem cB {g : FuncId} {Q : MQ} {k : List It} {ρ : Env} {H : MH} {args : List MV} {d l F} {r0 : W2 × Bool} (hs : Spec Tryd.prog g args H fun v H' => v = .tup [wd r0.1, bl r0.2] ∧ H' = H) (hc : InW r0.1)
    (h : ∀ (r : W2) (x : Bool), InW r → Is r r0.1 → Is x r0.2 → W Tryd.prog Q (.run l F :: k) (put ρ d (.tup [wd r, bl x])) H) : CallK Tryd.prog Q (.fn (.func g) [] []) args d [] l F k ρ H := CallK_eq hs (held_none _ _ _) (h r0.1 r0.2 hc rfl rfl)
theorem add_spec {a b : Int} (ha : InU a) (hb : InU b) (H : MH) : Spec Tryd.prog 87 [u64 a, u64 b] H fun v H' => v = .tup [u64 (addM a b).1, u8 (addM a b).2] ∧ H' = H := by
  have hs := bsV_two
  have z : InU 0 := by constructor <;> omega
  have o1 : InW (0, 1) := by refine ⟨⟨?_, ?_⟩, ⟨?_, ?_⟩⟩ <;> simp
  obtain ⟨one, hone, o, ag⟩ : ∃ q : W2, Is q (0, 1) ∧ InW q ∧ MV.agg [u64 0, u64 1] = wd q := ⟨(0, 1), rfl, o1, rfl⟩
  clear o1
  have pa : InW (0, (partsM a).1) := ⟨z, parts_in ha⟩
  have pb : InW (0, (partsM b).1) := ⟨z, parts_in hb⟩
  refine Spec.scalar (enterS Tryd.func87 [.tmp 4, .tmp 5] ?_)
  repeat' first | (with_reducible (show W _ _ _ _ _); with_reducible refine go ?_) | (with_reducible (show W _ _ _ _ _); with_reducible refine sg ?_ ?_ <;> intro _) | (with_reducible (show W _ _ _ _ _); with_reducible refine sc ?_ ?_ <;> intro _) | (with_reducible (show CallK _ _ _ _ _ _ _ _ _ _ _); with_reducible refine ce (nan_spec _ _ slice_new) ?_) | (with_reducible (show CallK _ _ _ _ _ _ _ _ _ _ _); with_reducible refine ce (neg_spec _ _) ?_) | (with_reducible (show CallK _ _ _ _ _ _ _ _ _ _ _); with_reducible refine ce (kind_spec _ _) ?_) | (with_reducible (show CallK _ _ _ _ _ _ _ _ _ _ _); with_reducible refine ce (abs_spec _ _) ?_) | (with_reducible (show CallK _ _ _ _ _ _ _ _ _ _ _); with_reducible refine ce (parts_spec _ _) ?_) | (with_reducible (show CallK _ _ _ _ _ _ _ _ _ _ _); with_reducible refine ce (wzero_spec _ _) ?_) | (with_reducible (show CallK _ _ _ _ _ _ _ _ _ _ _); with_reducible refine ce (round_spec _ (by assumption) _ _ _) ?_) | (with_reducible (show W _ _ (.code (.region 25 _ true) :: _) _ _); with_reducible refine W_draw [(0, []), (2, []), (3, []), (4, []), (5, []), (1, [2]), (6, []), (7, []), (8, []), (9, []), (10, [])] [2] (by kernel_rfl) ?_) | (with_reducible (show W _ _ (.code (.region 31 _ true) :: _) _ _); with_reducible refine W_draw [(0, []), (2, []), (3, []), (4, []), (5, []), (1, [2]), (6, []), (7, []), (8, []), (9, []), (10, [])] [2] (by kernel_rfl) ?_) | (with_reducible (show CallK _ _ _ _ _ _ _ _ _ _ _); first | (with_reducible refine cL (wleft_spec (0, _) _ _) (wleft_in (by assumption) _) ?_; intro r hr er) | (with_reducible refine cB (wright_spec _ _ _) (wright_in (by assumption) _) ?_; intro r x hr er ex) | (with_reducible refine cB (wadd_spec (by assumption) (by assumption) _) (waddM_in _ _) ?_; intro r x hr er ex) | (with_reducible refine cB (wsub_spec (by assumption) (by assumption) _) (wsubM_in _ _) ?_; intro r x hr er ex))
  all_goals try clear ag
  all_goals try simp only [Is] at *
  all_goals first | (simp [addM, add2, *]; done) | simp_all [addM, add2, -Int.not_lt]

theorem flip_in (b : Int) : InU (flipM b) := bits_inU _ _ _
theorem sub_spec {a : Int} (ha : InU a) (b : Int) (H : MH) : Spec Tryd.prog 81 [u64 a, u64 b] H fun v H' => v = .tup [u64 (addM a (flipM b)).1, u8 (addM a (flipM b)).2] ∧ H' = H := by
  refine Spec.scalar (enterS Tryd.func81 [.tmp 4, .tmp 5] ?_)
  repeat' first | (with_reducible (show W _ _ _ _ _); with_reducible refine go ?_) | (with_reducible (show W _ _ _ _ _); with_reducible refine sg ?_ ?_ <;> intro _) | (with_reducible (show W _ _ _ _ _); with_reducible refine sc ?_ ?_ <;> intro _) | (with_reducible (show CallK _ _ _ _ _ _ _ _ _ _ _); with_reducible refine ce (flip_spec _ _) ?_) | (with_reducible (show CallK _ _ _ _ _ _ _ _ _ _ _); with_reducible refine ce (add_spec ha (flip_in _) _) ?_)
  all_goals simp [*]
end Go.Proofs.YtcikcinkjbbnhaaDoor.M

/- What a Calc's methods answer: with nobody to remember, and with a Calc. -/
set_option linter.unusedSimpArgs false
set_option linter.unusedVariables false
set_option maxRecDepth 10000
set_option maxHeartbeats 2000000
namespace Go.Proofs.YtcikcinkjbbnhaaDoor.M
open Go Go.Proofs

abbrev nilp : MV := .lit (.pointer none)
theorem note_nil (b f : Int) (H : MH) : Spec Tryd.prog 79 [nilp, u64 b, u8 f] H fun v H' => v = u64 b ∧ H' = H := by
  refine Spec.scalar (enterS Tryd.func79 [.tmp 6] ?_)
  repeat' first | (with_reducible (show W _ _ _ _ _); with_reducible refine go ?_) | (with_reducible (show W _ _ _ _ _); with_reducible refine sg ?_ ?_ <;> intro _) | (with_reducible (show W _ _ _ _ _); with_reducible refine sc ?_ ?_ <;> intro _)
  all_goals simp [*]
theorem note_spec (b f g : Int) {H : MH} {p : Nat} (hp : hget H p = some ⟨[u8 g], true⟩) : Spec Tryd.prog 79 [.ptr p 0, u64 b, u8 f] H fun v H' => v = u64 b ∧ H' = H.set p (some ⟨[u8 (bits .or .u8 g f)], true⟩) := by
  refine enterS Tryd.func79 [.tmp 6] ?_
  repeat' first | (with_reducible (show W _ _ _ _ _); with_reducible refine go ?_) | (with_reducible (show W _ _ _ _ _); with_reducible refine sg ?_ ?_ <;> intro _) | (with_reducible (show W _ _ _ _ _); with_reducible refine sc ?_ ?_ <;> intro _)
  all_goals simp [*]

/-- A call that changes the memory. -/
theorem cM {g : FuncId} {Q : MQ} {k : List It} {ρ : Env} {H H1 : MH} {args : List MV} {d l F} {r : MV} (hs : Spec Tryd.prog g args H fun v H' => v = r ∧ H' = H1) (h : W Tryd.prog Q (.run l F :: k) (put ρ d r) H1) : CallK Tryd.prog Q (.fn (.func g) [] []) args d [] l F k ρ H :=
  CallK_of (a := []) (b := []) (by simpa using hs) (by rintro v H' ⟨rfl, rfl⟩; exact ⟨held_none _ _ _, h⟩)
theorem Note_nil (b f : Int) (H : MH) : Spec Tryd.prog 78 [nilp, u64 b, u8 f] H fun v H' => v = u64 b ∧ H' = H := by
  refine Spec.scalar (enterS Tryd.func78 [.tmp 6] ?_)
  repeat' first | (with_reducible (show W _ _ _ _ _); with_reducible refine go ?_) | (with_reducible (show W _ _ _ _ _); with_reducible refine sg ?_ ?_ <;> intro _) | (with_reducible (show W _ _ _ _ _); with_reducible refine sc ?_ ?_ <;> intro _) | (with_reducible (show CallK _ _ _ _ _ _ _ _ _ _ _); with_reducible refine ce (note_nil _ _ _) ?_)
  all_goals simp [*]
theorem Note_spec (b f g : Int) {H : MH} {p : Nat} (hp : hget H p = some ⟨[u8 g], true⟩) : Spec Tryd.prog 78 [.ptr p 0, u64 b, u8 f] H fun v H' => v = u64 b ∧ H' = H.set p (some ⟨[u8 (bits .or .u8 g f)], true⟩) := by
  refine enterS Tryd.func78 [.tmp 6] ?_
  repeat' first | (with_reducible (show W _ _ _ _ _); with_reducible refine go ?_) | (with_reducible (show W _ _ _ _ _); with_reducible refine sg ?_ ?_ <;> intro _) | (with_reducible (show W _ _ _ _ _); with_reducible refine sc ?_ ?_ <;> intro _) | ((with_reducible (show CallK _ _ _ _ _ _ _ _ _ _ _); with_reducible refine cM (note_spec _ _ _ hp) ?_))
  all_goals simp [*]
theorem cmul_nil (a b : Int) (H : MH) : Spec Tryd.prog 66 [nilp, u64 a, u64 b] H fun v H' => v = u64 (mulM a b).1 ∧ H' = H := by
  refine Spec.scalar (enterS Tryd.func66 [.tmp 6] ?_)
  repeat' first | (with_reducible (show W _ _ _ _ _); with_reducible refine go ?_) | (with_reducible (show W _ _ _ _ _); with_reducible refine sg ?_ ?_ <;> intro _) | (with_reducible (show W _ _ _ _ _); with_reducible refine sc ?_ ?_ <;> intro _) | (with_reducible (show CallK _ _ _ _ _ _ _ _ _ _ _); with_reducible refine ce (note_nil _ _ _) ?_) | (with_reducible (show CallK _ _ _ _ _ _ _ _ _ _ _); with_reducible refine ce (mul_spec _ _ _) ?_)
  all_goals simp [*]
theorem cmul_spec (a b g : Int) {H : MH} {p : Nat} (hp : hget H p = some ⟨[u8 g], true⟩) : Spec Tryd.prog 66 [.ptr p 0, u64 a, u64 b] H fun v H' => v = u64 (mulM a b).1 ∧ H' = H.set p (some ⟨[u8 (bits .or .u8 g (mulM a b).2)], true⟩) := by
  refine enterS Tryd.func66 [.tmp 6] ?_
  repeat' first | (with_reducible (show W _ _ _ _ _); with_reducible refine go ?_) | (with_reducible (show W _ _ _ _ _); with_reducible refine sg ?_ ?_ <;> intro _) | (with_reducible (show W _ _ _ _ _); with_reducible refine sc ?_ ?_ <;> intro _) | (with_reducible (show CallK _ _ _ _ _ _ _ _ _ _ _); with_reducible refine ce (mul_spec _ _ _) ?_) | ((with_reducible (show CallK _ _ _ _ _ _ _ _ _ _ _); with_reducible refine cM (note_spec _ _ _ hp) ?_))
  all_goals simp [*]

theorem cadd_nil {a b : Int} (ha : InU a) (hb : InU b) (H : MH) : Spec Tryd.prog 65 [nilp, u64 a, u64 b] H fun v H' => v = u64 (addM a b).1 ∧ H' = H := by
  refine Spec.scalar (enterS Tryd.func65 [.tmp 6] ?_)
  repeat' first | (with_reducible (show W _ _ _ _ _); with_reducible refine go ?_) | (with_reducible (show W _ _ _ _ _); with_reducible refine sg ?_ ?_ <;> intro _) | (with_reducible (show W _ _ _ _ _); with_reducible refine sc ?_ ?_ <;> intro _) | (with_reducible (show CallK _ _ _ _ _ _ _ _ _ _ _); with_reducible refine ce (note_nil _ _ _) ?_) | (with_reducible (show CallK _ _ _ _ _ _ _ _ _ _ _); with_reducible refine ce (add_spec ha hb _) ?_)
  all_goals simp [*]
theorem cadd_spec {a b : Int} (ha : InU a) (hb : InU b) (g : Int) {H : MH} {p : Nat} (hp : hget H p = some ⟨[u8 g], true⟩) : Spec Tryd.prog 65 [.ptr p 0, u64 a, u64 b] H fun v H' => v = u64 (addM a b).1 ∧ H' = H.set p (some ⟨[u8 (bits .or .u8 g (addM a b).2)], true⟩) := by
  refine enterS Tryd.func65 [.tmp 6] ?_
  repeat' first | (with_reducible (show W _ _ _ _ _); with_reducible refine go ?_) | (with_reducible (show W _ _ _ _ _); with_reducible refine sg ?_ ?_ <;> intro _) | (with_reducible (show W _ _ _ _ _); with_reducible refine sc ?_ ?_ <;> intro _) | (with_reducible (show CallK _ _ _ _ _ _ _ _ _ _ _); with_reducible refine ce (add_spec ha hb _) ?_) | ((with_reducible (show CallK _ _ _ _ _ _ _ _ _ _ _); with_reducible refine cM (note_spec _ _ _ hp) ?_))
  all_goals simp [*]

theorem csub_nil {a : Int} (ha : InU a) (b : Int) (H : MH) : Spec Tryd.prog 56 [nilp, u64 a, u64 b] H fun v H' => v = u64 (addM a (flipM b)).1 ∧ H' = H := by
  refine Spec.scalar (enterS Tryd.func56 [.tmp 6] ?_)
  repeat' first | (with_reducible (show W _ _ _ _ _); with_reducible refine go ?_) | (with_reducible (show W _ _ _ _ _); with_reducible refine sg ?_ ?_ <;> intro _) | (with_reducible (show W _ _ _ _ _); with_reducible refine sc ?_ ?_ <;> intro _) | (with_reducible (show CallK _ _ _ _ _ _ _ _ _ _ _); with_reducible refine ce (note_nil _ _ _) ?_) | (with_reducible (show CallK _ _ _ _ _ _ _ _ _ _ _); with_reducible refine ce (sub_spec ha _ _) ?_)
  all_goals simp [*]
theorem csub_spec {a : Int} (ha : InU a) (b : Int) (g : Int) {H : MH} {p : Nat} (hp : hget H p = some ⟨[u8 g], true⟩) : Spec Tryd.prog 56 [.ptr p 0, u64 a, u64 b] H fun v H' => v = u64 (addM a (flipM b)).1 ∧ H' = H.set p (some ⟨[u8 (bits .or .u8 g (addM a (flipM b)).2)], true⟩) := by
  refine enterS Tryd.func56 [.tmp 6] ?_
  repeat' first | (with_reducible (show W _ _ _ _ _); with_reducible refine go ?_) | (with_reducible (show W _ _ _ _ _); with_reducible refine sg ?_ ?_ <;> intro _) | (with_reducible (show W _ _ _ _ _); with_reducible refine sc ?_ ?_ <;> intro _) | (with_reducible (show CallK _ _ _ _ _ _ _ _ _ _ _); with_reducible refine ce (sub_spec ha _ _) ?_) | ((with_reducible (show CallK _ _ _ _ _ _ _ _ _ _ _); with_reducible refine cM (note_spec _ _ _ hp) ?_))
  all_goals simp [*]

theorem make_in (neg : Bool) (e f : Int) : InU (makeM neg e f) := by
  unfold makeM
  dsimp only
  split
  · exact bits_inU _ _ _
  · exact bits_inU _ _ _

theorem round3_in (neg : Bool) (m e : Int) (l t : Bool) : InU (round3 neg m e l t).1 := by
  unfold round3
  dsimp only
  split
  · exact make_in _ _ _
  · split
    · exact make_in _ _ _
    · exact make_in _ _ _
theorem roundM_in (neg : Bool) (w : W2) (e : Int) (m : Bool) : InU (roundM neg w e m).1 := by
  unfold roundM
  dsimp only
  split
  · exact make_in _ _ _
  · exact round3_in _ _ _ _ _
theorem quiet_in : InU 9221120237041090560 := by constructor <;> omega
theorem mulM_in (a b : Int) : InU (mulM a b).1 := by
  unfold mulM
  split
  · exact quiet_in
  · dsimp only
    split
    · exact quiet_in
    · split
      · exact make_in _ _ _
      · exact roundM_in _ _ _ _
theorem add2_in (a b : Int) : InU (add2 a b).1 := by
  have z : InU 0 := by constructor <;> omega
  unfold add2
  dsimp only
  repeat' split
  all_goals first | exact roundM_in _ _ _ _ | exact z
theorem addM_in {a b : Int} (ha : InU a) (hb : InU b) : InU (addM a b).1 := by
  have h : InU (bits .and .u64 a b) := bits_inU _ _ _
  unfold addM
  repeat' split
  all_goals first | exact quiet_in | exact ha | exact hb | exact h | exact add2_in _ _
end Go.Proofs.YtcikcinkjbbnhaaDoor.M

/- What a matrix answers. -/
set_option linter.unusedSimpArgs false
set_option linter.unusedVariables false
set_option maxRecDepth 10000
set_option maxHeartbeats 2000000
namespace Go.Proofs.YtcikcinkjbbnhaaDoor.M
open Go Go.Proofs

/-- A matrix: its sizes, and where its numbers lie. -/
abbrev mx (r c s : Int) (p n k : Nat) : MV := .agg [i64 r, i64 c, i64 s, .slice p 0 n k 1]
def inM (r c s : Int) (n : Nat) (i k : Int) : Bool := decide (0 ≤ i) && decide (i < r) && decide (0 ≤ k) && decide (k < c) && decide (0 ≤ s) && decide (IntKind.i64.wrap (IntKind.i64.wrap (i * s) + k) < n)
theorem in_spec (r c s : Int) (p n z : Nat) (i k : Int) (H : MH) : Spec Tryd.prog 68 [mx r c s p n z, i64 i, i64 k] H fun v H' => v = bl (inM r c s n i k) ∧ H' = H := by
  refine Spec.scalar (enterS Tryd.func68 [.tmp 6] ?_)
  repeat' first | (with_reducible (show W _ _ _ _ _); with_reducible refine go ?_) | (with_reducible (show W _ _ _ _ _); with_reducible refine sg ?_ ?_ <;> intro _) | (with_reducible (show W _ _ _ _ _); with_reducible refine sc ?_ ?_ <;> intro _)
  all_goals simp [inM, *]

def ixM (s i k : Int) : Int := IntKind.i64.wrap (IntKind.i64.wrap (i * s) + k)
def atM (r c s : Int) (D : List Int) (i k : Int) : Int := if inM r c s D.length i k then D.getD (ixM s i k).toNat 0 else 9221120237041090560
theorem at_spec (r c s : Int) (p z : Nat) (D : List Int) (i k : Int) {H : MH} {rw : Bool} (hp : hget H p = some ⟨D.map u64, rw⟩) (h0 : inM r c s D.length i k = true → 0 ≤ IntKind.i64.wrap (IntKind.i64.wrap (i * s) + k)) (h1 : inM r c s D.length i k = true → IntKind.i64.wrap (IntKind.i64.wrap (i * s) + k) < D.length) : Spec Tryd.prog 27 [mx r c s p D.length z, i64 i, i64 k] H fun v H' => v = u64 (atM r c s D i k) ∧ H' = H := by
  have hpl : p < H.length := by
    rcases Nat.lt_or_ge p H.length with h | h
    · exact h
    · simp [hget, List.getElem?_eq_none h] at hp
  have hlt : inM r c s D.length i k = true → (IntKind.i64.wrap (IntKind.i64.wrap (i * s) + k)).toNat < D.length := fun h => by
    have a := h0 h
    have b := h1 h
    generalize IntKind.i64.wrap (IntKind.i64.wrap (i * s) + k) = y at a b ⊢
    omega
  refine Spec.scalar (enterS Tryd.func27 [.tmp 6] ?_)
  repeat' first | (with_reducible (show W _ _ _ _ _); with_reducible refine go ?_) | (with_reducible (show W _ _ _ _ _); with_reducible refine sg ?_ ?_ <;> intro _) | (with_reducible (show W _ _ _ _ _); with_reducible refine sc ?_ ?_ <;> intro _) | (with_reducible (show CallK _ _ _ _ _ _ _ _ _ _ _); with_reducible refine ce (in_spec _ _ _ _ _ _ _ _ _) ?_)
  · simp [atM, ixM, *]
  · rename_i hin
    have hi : inM r c s D.length i k = true := by simpa using hin
    have hi2 := hlt hi
    simp [atM, ixM, hi, hget_old hpl, hp, List.getElem?_eq_getElem hi2, Cl]

def setM (r c s : Int) (D : List Int) (i k b : Int) : List Int := if inM r c s D.length i k then D.set (ixM s i k).toNat b else D
theorem hset_id {H : MH} {p : Nat} {o : MO} (h : hget H p = some o) : H.set p (some o) = H := by
  unfold hget at h
  rw [Option.join_eq_some_iff] at h
  apply List.ext_getElem?
  intro j
  rw [List.getElem?_set]
  split
  · subst_vars
    split
    · exact h.symm
    · rename_i hn
      rw [List.getElem?_eq_none (by omega)] at h
      cases h
  · rfl
theorem set_spec (r c s : Int) (p z : Nat) (D : List Int) (i k b : Int) {H : MH} (hp : hget H p = some ⟨D.map u64, true⟩) (h0 : inM r c s D.length i k = true → 0 ≤ IntKind.i64.wrap (IntKind.i64.wrap (i * s) + k)) (h1 : inM r c s D.length i k = true → IntKind.i64.wrap (IntKind.i64.wrap (i * s) + k) < D.length) : Spec Tryd.prog 67 [mx r c s p D.length z, i64 i, i64 k, u64 b] H fun v H' => v = .tup [] ∧ ∃ J, H' = H.set p (some ⟨(setM r c s D i k b).map u64, true⟩) ++ J := by
  have hpl : p < H.length := by
    rcases Nat.lt_or_ge p H.length with h | h
    · exact h
    · simp [hget, List.getElem?_eq_none h] at hp
  have hlt : inM r c s D.length i k = true → (IntKind.i64.wrap (IntKind.i64.wrap (i * s) + k)).toNat < D.length := fun h => by
    have a := h0 h
    have b := h1 h
    generalize IntKind.i64.wrap (IntKind.i64.wrap (i * s) + k) = y at a b ⊢
    omega
  refine enterS Tryd.func67 [] ?_
  repeat' first | (with_reducible (show W _ _ _ _ _); with_reducible refine go ?_) | (with_reducible (show W _ _ _ _ _); with_reducible refine sg ?_ ?_ <;> intro _) | (with_reducible (show W _ _ _ _ _); with_reducible refine sc ?_ ?_ <;> intro _) | (with_reducible (show CallK _ _ _ _ _ _ _ _ _ _ _); with_reducible refine ce (in_spec _ _ _ _ _ _ _ _ _) ?_)
  · rename_i hi
    have hl := hlt hi
    have e : (IntKind.i64.wrap (IntKind.i64.wrap (i * s) + k)).toNat * 1 + 1 ≤ (D.map u64).length := by rw [List.length_map]; omega
    rw [if_pos e]
    refine ⟨rfl, [some ⟨[i64 r, i64 c, i64 s, .slice p 0 D.length z 1], true⟩], ?_⟩
    rw [Option.getD_some, setM, if_pos hi, ixM, Nat.mul_one, List.map_set]
  · rename_i hi
    rw [setM, if_neg hi, hset_id hp]
    exact ⟨_, rfl⟩

/-- What is left behind a store of plain numbers is forgotten. -/
theorem _root_.Go.Proofs.YtcikcinkjbbnhaaDoor.M.Spec.stored {P : Program} {f : FuncId} {args : List MV} {H : MH} {p : Nat} {o : MO} {r : MV} (ho : ∀ c ∈ o.cells, Cl 0 [] c) (hr : Cl 0 [] r) (h : Spec P f args H fun v H' => v = r ∧ ∃ J, H' = H.set p (some o) ++ J) : Spec P f args H fun v H' => v = r ∧ H' = H.set p (some o) := by
  refine Spec.gc h ?_
  rintro v H1 ⟨rfl, J, rfl⟩
  refine ⟨H.set p (some o), J, [], rfl, List.length_set, List.nodup_nil, by simp, ?_, by simp, cl_mono (Nat.zero_le _) v hr, ren_free v hr, by simp⟩
  intro q o' hq
  by_cases e : p = q
  · subst e
    by_cases l : p < H.length
    · rw [hget_set_same l] at hq
      cases hq
      exact .inr ho
    · rw [List.set_eq_of_length_le (by omega)] at hq
      exact .inl hq
  · rw [hget_set_ne e] at hq
    exact .inl hq
end Go.Proofs.YtcikcinkjbbnhaaDoor.M
