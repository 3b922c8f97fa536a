/- Plain: lists of bits, the lowest first, without noughts at the end, and the numbers that they are of. No condition beyond those stated. -/
import Derived.RowKit
namespace Go.Proofs.Ytlnpcbhbcmhbkaa.U

/-- The number of a list of bits. -/
def val : List Int → Nat
  | [] => 0
  | x :: xs => x.toNat + 2 * val xs
def isb (l : List Int) : Prop := ∀ x ∈ l, x = 0 ∨ x = 1
/-- The bits of a number. -/
def binl (n : Nat) : List Int := if h : n = 0 then [] else ((n % 2 : Nat) : Int) :: binl (n / 2)
termination_by n
decreasing_by omega

theorem binl_zero : binl 0 = [] := by rw [binl]; simp
theorem binl_pos {n : Nat} (h : n ≠ 0) : binl n = ((n % 2 : Nat) : Int) :: binl (n / 2) := by
  conv => lhs; rw [binl]
  rw [dif_neg h]
theorem isb_nil : isb [] := by intro x h; cases h
theorem isb_cons {x : Int} {l : List Int} (hx : x = 0 ∨ x = 1) (h : isb l) : isb (x :: l) := by
  intro y hy
  rcases List.mem_cons.mp hy with rfl | hy
  · exact hx
  · exact h y hy
theorem isb_append {a b : List Int} (ha : isb a) (hb : isb b) : isb (a ++ b) := by
  intro y hy
  rcases List.mem_append.mp hy with hy | hy
  · exact ha y hy
  · exact hb y hy
theorem isb_tail {x : Int} {l : List Int} (h : isb (x :: l)) : isb l := fun y hy => h y (List.mem_cons_of_mem _ hy)
theorem isb_head {x : Int} {l : List Int} (h : isb (x :: l)) : x = 0 ∨ x = 1 := h x List.mem_cons_self
theorem isb_take {l : List Int} (h : isb l) (n : Nat) : isb (l.take n) := fun y hy => h y (List.mem_of_mem_take hy)
theorem isb_drop {l : List Int} (h : isb l) (n : Nat) : isb (l.drop n) := fun y hy => h y (List.mem_of_mem_drop hy)
theorem isb_replicate (n : Nat) : isb (List.replicate n 0) := by intro y hy; exact Or.inl (List.eq_of_mem_replicate hy)
theorem isb_binl (n : Nat) : isb (binl n) := by
  induction n using Nat.strongRecOn with
  | ind n ih =>
    by_cases h : n = 0
    · subst h; rw [binl_zero]; exact isb_nil
    · rw [binl_pos h]
      exact isb_cons (by omega) (ih _ (by omega))
theorem val_binl (n : Nat) : val (binl n) = n := by
  induction n using Nat.strongRecOn with
  | ind n ih =>
    by_cases h : n = 0
    · subst h; rw [binl_zero]; rfl
    · rw [binl_pos h]
      show ((n % 2 : Nat) : Int).toNat + 2 * val (binl (n / 2)) = n
      rw [ih _ (by omega), Int.toNat_natCast]
      omega
theorem val_append (a b : List Int) : val (a ++ b) = val a + 2 ^ a.length * val b := by
  induction a with
  | nil => simp [val]
  | cons x a ih =>
    show x.toNat + 2 * val (a ++ b) = x.toNat + 2 * val a + 2 ^ (a.length + 1) * val b
    rw [ih, Nat.pow_succ, Nat.mul_add, Nat.mul_comm (2 ^ a.length) 2, Nat.mul_assoc, Nat.add_assoc]
theorem val_replicate (n : Nat) : val (List.replicate n 0) = 0 := by
  induction n with
  | zero => rfl
  | succ n ih => rw [List.replicate_succ]; show (0 : Int).toNat + 2 * val _ = 0; rw [ih]; rfl
theorem val_lt {l : List Int} (h : isb l) : val l < 2 ^ l.length := by
  induction l with
  | nil => simp [val]
  | cons x l ih =>
    have := ih (isb_tail h)
    have hx := isb_head h
    show x.toNat + 2 * val l < 2 ^ (l.length + 1)
    rw [Nat.pow_succ]
    omega
/-- A list of bits that ends in 1 is that of its number. -/
theorem binl_val {l : List Int} (h : isb l) (hl : l = [] ∨ l.getLast? = some 1) : binl (val l) = l ∧ (l ≠ [] → 0 < val l) := by
  induction l with
  | nil => exact ⟨binl_zero, fun h => absurd rfl h⟩
  | cons x l ih =>
    have hx := isb_head h
    have hlast : l = [] ∧ x = 1 ∨ l ≠ [] ∧ l.getLast? = some 1 := by
      rcases hl with hl | hl
      · cases hl
      · cases l with
        | nil => left; simpa using hl
        | cons y l => right; simpa using hl
    rcases hlast with ⟨rfl, rfl⟩ | ⟨hne, hlast⟩
    · refine ⟨?_, fun _ => by decide⟩
      show binl 1 = [1]
      rw [binl_pos (by decide)]
      show ((1 : Nat) : Int) :: binl 0 = [1]
      rw [binl_zero]; rfl
    · obtain ⟨e, p⟩ := ih (isb_tail h) (Or.inr hlast)
      have p := p hne
      have hv : val (x :: l) = x.toNat + 2 * val l := rfl
      refine ⟨?_, fun _ => by omega⟩
      rw [hv, binl_pos (by omega)]
      have e1 : (x.toNat + 2 * val l) / 2 = val l := by omega
      have e2 : (((x.toNat + 2 * val l) % 2 : Nat) : Int) = x := by omega
      rw [e1, e2, e]
theorem val_take_succ {l : List Int} {n : Nat} (h : n < l.length) : val (l.take (n + 1)) = val (l.take n) + 2 ^ n * (l.getD n 0).toNat := by
  have e : l.take (n + 1) = l.take n ++ [l.getD n 0] := by
    rw [List.take_succ_eq_append_getElem h]
    congr 2
    rw [List.getD_eq_getElem?_getD, List.getElem?_eq_getElem h, Option.getD_some]
  rw [e, val_append, List.length_take, Nat.min_eq_left (Nat.le_of_lt h)]
  show _ + 2 ^ n * ((l.getD n 0).toNat + 2 * 0) = _
  rw [Nat.mul_zero, Nat.add_zero]
theorem getD_isb {l : List Int} (h : isb l) (n : Nat) : l.getD n 0 = 0 ∨ l.getD n 0 = 1 := by
  rw [List.getD_eq_getElem?_getD]
  by_cases hn : n < l.length
  · rw [List.getElem?_eq_getElem hn, Option.getD_some]
    exact h _ (List.getElem_mem hn)
  · rw [List.getElem?_eq_none (by omega)]; exact Or.inl rfl
/-- How many bits a number has. -/
def blen (n : Nat) : Nat := (binl n).length
theorem blen_zero : blen 0 = 0 := by unfold blen; rw [binl_zero]; rfl
theorem blen_pos {n : Nat} (h : n ≠ 0) : blen n = blen (n / 2) + 1 := by
  unfold blen; rw [binl_pos h]; rfl
theorem lt_blen (n : Nat) : n < 2 ^ blen n := by
  have := val_lt (isb_binl n)
  rw [val_binl] at this
  exact this
theorem blen_le (m n : Nat) : blen n ≤ m ↔ n < 2 ^ m := by
  induction m generalizing n with
  | zero =>
    by_cases h : n = 0
    · subst h; simp [blen_zero]
    · rw [blen_pos h]; simp [h]
  | succ m ih =>
    by_cases h : n = 0
    · subst h; simp [blen_zero, Nat.two_pow_pos]
    · rw [blen_pos h, Nat.pow_succ]
      have := ih (n / 2)
      omega
theorem blen_ge (n : Nat) (h : n ≠ 0) : 2 ^ (blen n - 1) ≤ n := by
  have := (blen_le (blen n - 1) n)
  have h2 := blen_pos h
  omega
theorem blen_mono {a b : Nat} (h : a ≤ b) : blen a ≤ blen b := (blen_le _ _).2 (Nat.lt_of_le_of_lt h (lt_blen b))
theorem blen_eq_zero {n : Nat} : blen n = 0 ↔ n = 0 := by
  constructor
  · intro h
    have := (blen_le 0 n).1 (by omega)
    omega
  · rintro rfl; exact blen_zero
theorem blen_mul_pow (n k : Nat) (h : n ≠ 0) : blen (n * 2 ^ k) = blen n + k := by
  induction k with
  | zero => simp
  | succ k ih =>
    have hp := Nat.two_pow_pos k
    have h1 : n * 2 ^ (k + 1) = 2 * (n * 2 ^ k) := by rw [Nat.pow_succ, ← Nat.mul_assoc, Nat.mul_comm]
    have h2 : n * 2 ^ k ≠ 0 := Nat.mul_ne_zero h (by omega)
    rw [h1, blen_pos (by omega)]
    have h3 : 2 * (n * 2 ^ k) / 2 = n * 2 ^ k := by omega
    rw [h3, ih]; omega
theorem binl_inj {a b : Nat} (h : binl a = binl b) : a = b := by
  rw [← val_binl a, ← val_binl b, h]
theorem binl_one : binl 1 = [1] := by
  rw [binl_pos (by decide)]
  show ((1 : Nat) : Int) :: binl 0 = [1]
  rw [binl_zero]; rfl
theorem getD_binl (n i : Nat) : (binl n).getD i 0 = ((n / 2 ^ i % 2 : Nat) : Int) := by
  induction i generalizing n with
  | zero =>
    by_cases h : n = 0
    · subst h; rw [binl_zero]; rfl
    · rw [binl_pos h]; simp
  | succ i ih =>
    by_cases h : n = 0
    · subst h; rw [binl_zero]; simp
    · rw [binl_pos h]
      show (binl (n / 2)).getD i 0 = _
      rw [ih, Nat.div_div_eq_div_mul, Nat.pow_succ, Nat.mul_comm 2]
theorem val_drop_binl (n i : Nat) : val ((binl n).drop i) = n / 2 ^ i := by
  induction i generalizing n with
  | zero => simp [val_binl]
  | succ i ih =>
    by_cases h : n = 0
    · subst h; rw [binl_zero]; simp [val]
    · rw [binl_pos h, List.drop_succ_cons, ih, Nat.div_div_eq_div_mul, Nat.pow_succ, Nat.mul_comm 2]
def cmp3 (x y : Int) : Int := if x < y then -1 else if x > y then 1 else 0
theorem cmp3_cases (x y : Int) : (cmp3 x y = -1 ∧ x < y) ∨ (cmp3 x y = 1 ∧ y < x) ∨ (cmp3 x y = 0 ∧ x = y) := by
  unfold cmp3; repeat (any_goals split)
  all_goals omega
end Go.Proofs.Ytlnpcbhbcmhbkaa.U
