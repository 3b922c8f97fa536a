/- What the functions of wide, and those of math/bits beneath them, answer. -/
import Derived.Test.YtamoljalficfgaaC1
import Derived.Laws.Externs
import Derived.Laws.Cover2
set_option linter.unusedSimpArgs false
set_option linter.unusedVariables false
set_option maxRecDepth 10000
set_option maxHeartbeats 2000000
namespace Go.Proofs.Ytamoljalficfgaa.M
open Go Go.Proofs

abbrev InU (n : Int) : Prop := 0 ≤ n ∧ n < 18446744073709551616
theorem wrap_u64 (n : Int) : IntKind.u64.wrap n = n % 18446744073709551616 := by simp [IntKind.wrap, IntKind.signed, IntKind.bits]
theorem wrap_inU (n : Int) : InU (IntKind.u64.wrap n) := by rw [wrap_u64]; exact ⟨Int.emod_nonneg _ (by omega), Int.emod_lt_of_pos _ (by omega)⟩
theorem bits_inU (op : BinOp) (a b : Int) : InU (bits op .u64 a b) := wrap_inU _
theorem shl_inU (a b : Int) : InU (shlV .u64 a b) := wrap_inU _
theorem shr_inU {a : Int} (h : InU a) (b : Int) : InU (shrV .u64 a b) := by
  unfold shrV
  have hp : (0 : Int) < 2 ^ (min b.toNat IntKind.u64.bits) := Int.pow_pos (by decide)
  rw [Int.fdiv_eq_ediv_of_nonneg _ (Int.le_of_lt hp)]
  refine ⟨Int.ediv_nonneg h.1 (Int.le_of_lt hp), Int.lt_of_le_of_lt (Int.ediv_le_self _ h.1) h.2⟩

def sub64E : Array Value → Sem Value := fun args => do
  let (x, y, b) ← Extern.MathBitsCarry.three "Sub64" args
  pure (Extern.MathBitsCarry.pair ((x + Extern.MathBitsCarry.m64 - y - b) % Extern.MathBitsCarry.m64) (if x < y + b then 1 else 0))
theorem run_sub64E {P : Program} (x y b : Nat) (hb : b ≤ 1) (w : World) :
    (sub64E #[.int .u64 x, .int .u64 y, .int .u64 b]).run P w =
      .ok (.tuple #[.int .u64 (((x + 18446744073709551616 - y - b) % 18446744073709551616 : Nat) : Int), .int .u64 ((if x < y + b then 1 else 0 : Nat) : Int)]) w := by
  have : b = 0 ∨ b = 1 := by omega
  rcases this with rfl | rfl <;> rfl

theorem does_extern {P : Program} {f : FuncId} {args : List MV} {H : MH} {r : MV} (hcl : Cl 0 [] r) (h : ∀ μ w, (callFunc f (concs μ args).toArray).run P w = .ok (.value (conc (fun _ => none) r)) w) : Spec P f args H fun v H' => v = r ∧ H' = H := by
  intro μ w hr ha
  unfold Does
  rw [h μ w]
  have hfree : ∀ v, Cl 0 [] v → Ok μ v ∧ conc μ v = conc (fun _ => none) v := by
    intro v hv
    have hok : ∀ v, Cl 0 [] v → Ok (fun _ => none) v := ok_free
    have e := ok_mono (μ := fun _ => none) (μ' := μ) (fun p l h => by cases h) v (hok v hv)
    exact e
  exact ⟨r, H, μ, ⟨rfl, rfl⟩, (hfree r hcl).2.symm, (hfree r hcl).1, hr, Ext.refl _ _ _⟩

def add64M (a b c : Int) : Int × Int := ((a + b + c) % 18446744073709551616, (a + b + c) / 18446744073709551616)
theorem add64_spec {a b c : Int} (ha : 0 ≤ a) (hb : 0 ≤ b) (hc : 0 ≤ c ∧ c ≤ 1) (H : MH) : Spec Try.prog 91 [u64 a, u64 b, u64 c] H fun v H' => v = .tup [u64 (add64M a b c).1, u64 (add64M a b c).2] ∧ H' = H := by
  refine does_extern (by simp [Cl, Cls']) fun μ w => ?_
  simp only [concs, conc]
  rw [run_callFunc_extern Try.func91 (by kernel_rfl) (by kernel_rfl) (by kernel_rfl) (show Extern.find _ = some add64Entry from by kernel_rfl), run_add64 a b c ha hb hc.1 hc.2]
  rfl
def sub64M (a b c : Int) : Int × Int := ((a - b - c) % 18446744073709551616, if a < b + c then 1 else 0)
theorem sub64_spec {a b c : Int} (ha : 0 ≤ a) (hb : InU b) (hc : 0 ≤ c ∧ c ≤ 1) (H : MH) : Spec Try.prog 98 [u64 a, u64 b, u64 c] H fun v H' => v = .tup [u64 (sub64M a b c).1, u64 (sub64M a b c).2] ∧ H' = H := by
  refine does_extern (by simp [Cl, Cls']) fun μ w => ?_
  simp only [concs, conc]
  obtain ⟨x, rfl⟩ := Int.eq_ofNat_of_zero_le ha
  obtain ⟨y, rfl⟩ := Int.eq_ofNat_of_zero_le hb.1
  obtain ⟨z, rfl⟩ := Int.eq_ofNat_of_zero_le hc.1
  rw [run_callFunc_extern Try.func98 (by kernel_rfl) (by kernel_rfl) (by kernel_rfl) (show Extern.find _ = some sub64E from by kernel_rfl), run_sub64E x y z (by omega)]
  have e1 : (((x + 18446744073709551616 - y - z) % 18446744073709551616 : Nat) : Int) = ((x : Int) - (y : Int) - (z : Int)) % 18446744073709551616 := by have := hb.2; omega
  have e2 : ((if x < y + z then 1 else 0 : Nat) : Int) = if (x : Int) < (y : Int) + (z : Int) then 1 else 0 := by split <;> split <;> omega
  rw [e1, e2]
  rfl

abbrev W2 := Int × Int
abbrev wd (w : W2) : MV := .agg [u64 w.1, u64 w.2]
abbrev InW (w : W2) : Prop := InU w.1 ∧ InU w.2

def waddM (a b : W2) : W2 × Bool :=
  let l := add64M a.2 b.2 0
  let h := add64M a.1 b.1 l.2
  ((h.1, l.1), decide (h.2 = 1))
theorem add64_c {a b c : Int} (ha : InU a) (hb : InU b) (hc : 0 ≤ c ∧ c ≤ 1) : 0 ≤ (add64M a b c).2 ∧ (add64M a b c).2 ≤ 1 := by
  simp only [add64M]; obtain ⟨h1, h2⟩ := ha; obtain ⟨h3, h4⟩ := hb; omega
theorem wadd_spec {a b : W2} (ha : InW a) (hb : InW b) (H : MH) : Spec Try.prog 77 [wd a, wd b] H fun v H' => v = .tup [wd (waddM a b).1, bl (waddM a b).2] ∧ H' = H := by
  have hc := add64_c ha.2 hb.2 (c := 0) (by omega)
  have h1 := ha.1.1
  have h2 := ha.2.1
  have h3 := hb.1.1
  have h4 := hb.2.1
  refine Spec.scalar (enterS Try.func77 [.cell 4 94, .tmp 5] ?_)
  repeat' first | (with_reducible (show W _ _ _ _ _); with_reducible refine go ?_) | (with_reducible (show W _ _ _ _ _); with_reducible refine sg ?_ ?_ <;> intro _) | (with_reducible (show W _ _ _ _ _); with_reducible refine sc ?_ ?_ <;> intro _) | (with_reducible (show CallK _ _ _ _ _ _ _ _ _ _ _); with_reducible refine ce (add64_spec (by assumption) (by assumption) (by first | assumption | omega) _) ?_)
  all_goals simp_all [waddM]

def wsubM (a b : W2) : W2 × Bool :=
  let l := sub64M a.2 b.2 0
  let h := sub64M a.1 b.1 l.2
  ((h.1, l.1), decide (h.2 = 1))
theorem sub64_c (a b c : Int) : 0 ≤ (sub64M a b c).2 ∧ (sub64M a b c).2 ≤ 1 := by
  simp only [sub64M]; split <;> omega
theorem wsub_spec {a b : W2} (ha : InW a) (hb : InW b) (H : MH) : Spec Try.prog 93 [wd a, wd b] H fun v H' => v = .tup [wd (wsubM a b).1, bl (wsubM a b).2] ∧ H' = H := by
  have hc := sub64_c a.2 b.2 0
  have h1 := ha.1.1
  have h2 := ha.2.1
  have h3 := hb.1
  have h4 := hb.2
  refine Spec.scalar (enterS Try.func93 [.cell 4 94, .tmp 5] ?_)
  repeat' first | (with_reducible (show W _ _ _ _ _); with_reducible refine go ?_) | (with_reducible (show W _ _ _ _ _); with_reducible refine sg ?_ ?_ <;> intro _) | (with_reducible (show W _ _ _ _ _); with_reducible refine sc ?_ ?_ <;> intro _) | (with_reducible (show CallK _ _ _ _ _ _ _ _ _ _ _); with_reducible refine ce (sub64_spec (by assumption) (by assumption) (by first | assumption | omega) _) ?_)
  all_goals simp_all [wsubM]
theorem waddM_in (a b : W2) : InW (waddM a b).1 := by
  simp only [waddM, add64M, InW, InU]; omega
theorem wsubM_in (a b : W2) : InW (wsubM a b).1 := by
  simp only [wsubM, sub64M, InW, InU]; omega

def wzeroM (a : W2) : Bool := decide (bits .or .u64 a.1 a.2 = 0)
theorem wzero_spec (a : W2) (H : MH) : Spec Try.prog 72 [wd a] H fun v H' => v = bl (wzeroM a) ∧ H' = H := by
  refine Spec.scalar (enterS Try.func72 [.tmp 2] ?_)
  repeat' first | (with_reducible (show W _ _ _ _ _); with_reducible refine go ?_) | (with_reducible (show W _ _ _ _ _); with_reducible refine sg ?_ ?_ <;> intro _) | (with_reducible (show W _ _ _ _ _); with_reducible refine sc ?_ ?_ <;> intro _)
  all_goals simp_all [wzeroM]
def wcmpM (a b : W2) : Int := if a.1 < b.1 ∨ a.1 = b.1 ∧ a.2 < b.2 then -1 else if a.1 = b.1 ∧ a.2 = b.2 then 0 else 1
theorem wcmp_spec (a b : W2) (H : MH) : Spec Try.prog 71 [wd a, wd b] H fun v H' => v = i64 (wcmpM a b) ∧ H' = H := by
  refine Spec.scalar (enterS Try.func71 [.tmp 4] ?_)
  repeat' first | (with_reducible (show W _ _ _ _ _); with_reducible refine go ?_) | (with_reducible (show W _ _ _ _ _); with_reducible refine sg ?_ ?_ <;> intro _) | (with_reducible (show W _ _ _ _ _); with_reducible refine sc ?_ ?_ <;> intro _)
  all_goals simp_all [wcmpM]
def wleftM (a : W2) (n : Int) : W2 := if n ≤ 0 then a else if 128 ≤ n then (0, 0) else if 64 ≤ n then (shlV .u64 a.2 (IntKind.i64.wrap (n - 64)), 0) else
  (bits .or .u64 (shlV .u64 a.1 n) (shrV .u64 a.2 (IntKind.i64.wrap (64 - n))), shlV .u64 a.2 n)
theorem wrap_i64 {n : Int} (h : -9223372036854775808 ≤ n ∧ n < 9223372036854775808) : IntKind.i64.wrap n = n := by
  simp only [IntKind.wrap, IntKind.signed, IntKind.bits]
  simp
  split <;> omega
theorem wleft_spec (a : W2) (n : Int) (H : MH) : Spec Try.prog 52 [wd a, i64 n] H fun v H' => v = wd (wleftM a n) ∧ H' = H := by
  have h1 : ¬ 128 ≤ n → 64 ≤ n → ¬ IntKind.i64.wrap (n - 64) < 0 := fun a b => by rw [wrap_i64 (by omega)]; omega
  have h2 : ¬ n ≤ 0 → ¬ 64 ≤ n → ¬ n < 0 := fun a b => by omega
  have h3 : ¬ n ≤ 0 → ¬ 64 ≤ n → ¬ IntKind.i64.wrap (64 - n) < 0 := fun a b => by rw [wrap_i64 (by omega)]; omega
  refine Spec.scalar (enterS Try.func52 [.cell 4 94] ?_)
  repeat' first | (with_reducible (show W _ _ _ _ _); with_reducible refine go ?_) | (with_reducible (show W _ _ _ _ _); with_reducible refine sg ?_ ?_ <;> intro _) | (with_reducible (show W _ _ _ _ _); with_reducible refine sc ?_ ?_ <;> intro _) | (with_reducible (show W _ _ (.code (.region 7 _ true) :: _) _ _); with_reducible refine W_draw [(0, []), (1, []), (2, []), (3, []), (4, []), (5, []), (6, []), (7, []), (8, []), (9, []), (10, []), (11, []), (12, []), (13, []), (14, []), (15, [])] [] (by kernel_rfl) ?_)
  all_goals simp [wleftM, *]

def wrightV (a : W2) (n : Int) : W2 := if n ≤ 0 then a else if 128 ≤ n then (0, 0) else if 64 ≤ n then (0, shrV .u64 a.1 (IntKind.i64.wrap (n - 64))) else
  (shrV .u64 a.1 n, bits .or .u64 (shlV .u64 a.1 (IntKind.i64.wrap (64 - n))) (shrV .u64 a.2 n))
def wrightM (a : W2) (n : Int) : W2 × Bool := if n ≤ 0 then (a, false) else
  let o := wrightV a n
  (o, (!(decide ((wleftM o n).1 = a.1) && decide ((wleftM o n).2 = a.2))) || (decide (128 ≤ n) && !wzeroM a))
theorem wright_spec (a : W2) (n : Int) (H : MH) : Spec Try.prog 75 [wd a, i64 n] H fun v H' => v = .tup [wd (wrightM a n).1, bl (wrightM a n).2] ∧ H' = H := by
  have h1 : ¬ 128 ≤ n → 64 ≤ n → ¬ IntKind.i64.wrap (n - 64) < 0 := fun a b => by rw [wrap_i64 (by omega)]; omega
  have h2 : ¬ n ≤ 0 → ¬ 64 ≤ n → ¬ n < 0 := fun a b => by omega
  have h3 : ¬ n ≤ 0 → ¬ 64 ≤ n → ¬ IntKind.i64.wrap (64 - n) < 0 := fun a b => by rw [wrap_i64 (by omega)]; omega
  refine Spec.scalar (enterS Try.func75 [.cell 4 94, .tmp 5] ?_)
  repeat' first | (with_reducible (show W _ _ _ _ _); with_reducible refine go ?_) | (with_reducible (show W _ _ _ _ _); with_reducible refine sg ?_ ?_ <;> intro _) | (with_reducible (show W _ _ _ _ _); with_reducible refine sc ?_ ?_ <;> intro _) | (with_reducible (show CallK _ _ _ _ _ _ _ _ _ _ _); with_reducible refine ce (wleft_spec (_, _) _ _) ?_) | (with_reducible (show CallK _ _ _ _ _ _ _ _ _ _ _); with_reducible refine ce (wzero_spec _ _) ?_) | (with_reducible (show W _ _ (.code (.region 2 _ true) :: _) _ _); with_reducible refine W_draw [(0, []), (1, []), (2, []), (3, []), (4, []), (5, []), (6, []), (7, []), (8, []), (9, []), (10, []), (11, []), (12, []), (13, []), (14, []), (15, [])] [] (by kernel_rfl) ?_) | (with_reducible (show W _ _ (.code (.region 8 _ true) :: _) _ _); with_reducible refine W_draw [(0, []), (1, []), (2, []), (4, []), (3, [0, 4]), (5, []), (6, []), (7, []), (8, []), (9, []), (10, []), (11, [0]), (12, []), (13, []), (14, []), (15, []), (16, [])] [0, 4] (by kernel_rfl) ?_)
  all_goals simp [wrightM, wrightV, *]
def LEN8 : List Nat := [0, 1, 2, 2, 3, 3, 3, 3, 4, 4, 4, 4, 4, 4, 4, 4, 5, 5, 5, 5, 5, 5, 5, 5, 5, 5, 5, 5, 5, 5, 5, 5, 6, 6, 6, 6, 6, 6, 6, 6, 6, 6, 6, 6, 6, 6, 6, 6, 6, 6, 6, 6, 6, 6, 6, 6, 6, 6, 6, 6, 6, 6, 6, 6, 7, 7, 7, 7, 7, 7, 7, 7, 7, 7, 7, 7, 7, 7, 7, 7, 7, 7, 7, 7, 7, 7, 7, 7, 7, 7, 7, 7, 7, 7, 7, 7, 7, 7, 7, 7, 7, 7, 7, 7, 7, 7, 7, 7, 7, 7, 7, 7, 7, 7, 7, 7, 7, 7, 7, 7, 7, 7, 7, 7, 7, 7, 7, 7, 8, 8, 8, 8, 8, 8, 8, 8, 8, 8, 8, 8, 8, 8, 8, 8, 8, 8, 8, 8, 8, 8, 8, 8, 8, 8, 8, 8, 8, 8, 8, 8, 8, 8, 8, 8, 8, 8, 8, 8, 8, 8, 8, 8, 8, 8, 8, 8, 8, 8, 8, 8, 8, 8, 8, 8, 8, 8, 8, 8, 8, 8, 8, 8, 8, 8, 8, 8, 8, 8, 8, 8, 8, 8, 8, 8, 8, 8, 8, 8, 8, 8, 8, 8, 8, 8, 8, 8, 8, 8, 8, 8, 8, 8, 8, 8, 8, 8, 8, 8, 8, 8, 8, 8, 8, 8, 8, 8, 8, 8, 8, 8, 8, 8, 8, 8, 8, 8, 8, 8, 8, 8, 8, 8, 8, 8, 8, 8]
def tabM (y : Int) : Int := (LEN8.getD (IntKind.u8.wrap y).toNat 0 : Nat)
theorem wrap_u8 (n : Int) : 0 ≤ IntKind.u8.wrap n ∧ IntKind.u8.wrap n < 256 := by
  simp [IntKind.wrap, IntKind.signed, IntKind.bits]; omega
theorem tab_ix {S : ByteArray} (hS : S.data.toList.map (·.toNat) = LEN8) {y : Int} : ixV .string (.lit (.string S)) (.lit (.int .u8 (IntKind.u8.wrap y))) = some (u8 (tabM y)) := by
  have h := wrap_u8 y
  have hj : (IntKind.u8.wrap y).toNat < 256 := by omega
  have hlen : S.data.size = 256 := by
    have := congrArg List.length hS
    simpa [LEN8] using this
  rw [ixV_string, if_pos h.1]
  have hlt : (IntKind.u8.wrap y).toNat < S.size := by rw [ByteArray.size]; omega
  have hb : S[(IntKind.u8.wrap y).toNat]? = some (S.data[(IntKind.u8.wrap y).toNat]'(by omega)) := by
    rw [getElem?_pos S _ hlt]; rfl
  rw [hb]
  have hv : LEN8.getD (IntKind.u8.wrap y).toNat 0 = (S.data[(IntKind.u8.wrap y).toNat]'(by omega)).toNat := by
    rw [← hS]; simp [List.getD, hlen, hj]
  simp only [tabM, hv, Option.map_some]
def len1 (n x : Int) : Int := IntKind.i64.wrap (n + IntKind.i64.wrap (tabM x))
def len8 (n x : Int) : Int := if 256 ≤ x then len1 (IntKind.i64.wrap (n + 8)) (shrV .u64 x 8) else len1 n x
def len16 (n x : Int) : Int := if 65536 ≤ x then len8 (IntKind.i64.wrap (n + 16)) (shrV .u64 x 16) else len8 n x
def lenM (x : Int) : Int := if 4294967296 ≤ x then len16 32 (shrV .u64 x 32) else len16 0 x
theorem len_spec {x : Int} (hx : InU x) (H : MH) : Spec Try.prog 51 [u64 x] H fun v H' => v = i64 (lenM x) ∧ H' = H := by
  refine Spec.scalar (enterS Try.func51 [.tmp 2] ?_)
  repeat' first | (with_reducible (show W _ _ _ _ _); with_reducible refine go ?_) | (with_reducible (show W _ _ _ _ _); with_reducible refine sg ?_ ?_ <;> intro _) | (with_reducible (show W _ _ _ _ _); with_reducible refine sc ?_ ?_ <;> intro _) | (rw [tab_ix]; rotate_left; kernel_rfl) | (refine goA ?_)

  all_goals simp [lenM, len16, len8, len1, *]
end Go.Proofs.Ytamoljalficfgaa.M
