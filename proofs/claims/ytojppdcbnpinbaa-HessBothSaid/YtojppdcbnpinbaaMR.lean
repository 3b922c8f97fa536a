/- What a run by the kernel needs of this seat. -/
import Derived.Test.YtojppdcbnpinbaaM19
import Derived.Test.YtojppdcbnpinbaaC10
set_option linter.unusedSimpArgs false
set_option linter.unusedVariables false
set_option maxRecDepth 10000
namespace Go.Proofs.Ytojppdcbnpinbaa.M
open Go Go.Proofs
def pl_3 (i : Nat) : Option (List (Nat × List Nat) × List Nat) := (bif Nat.blt i 28 then (bif Nat.blt i 26 then (bif Nat.beq i 20 then some ([(0, []), (1, []), (2, []), (3, []), (4, []), (5, []), (6, []), (7, []), (8, []), (9, []), (10, []), (11, []), (12, []), (13, [4, 7]), (14, []), (15, []), (16, [])], [4, 7]) else none) else (bif Nat.beq i 26 then some ([(0, []), (1, []), (2, []), (3, []), (4, []), (5, []), (6, []), (7, []), (8, []), (9, []), (10, []), (12, []), (13, []), (14, []), (15, []), (16, []), (17, []), (18, []), (11, [0, 14, 17]), (19, [0]), (20, [0]), (21, [])], [0, 14, 17]) else none)) else (bif Nat.blt i 29 then (bif Nat.beq i 28 then some ([(0, []), (1, []), (3, []), (8, []), (2, [0, 8]), (4, [8]), (5, []), (6, []), (7, []), (9, []), (10, [])], [0, 8]) else none) else (bif Nat.blt i 30 then (bif Nat.beq i 29 then some ([(0, []), (1, []), (3, []), (4, []), (9, []), (2, [0, 9]), (5, [9]), (6, []), (7, []), (8, []), (10, []), (11, [])], [0, 9]) else none) else (bif Nat.beq i 30 then some ([(0, []), (1, []), (2, []), (3, []), (4, []), (5, []), (6, []), (7, []), (8, []), (9, []), (10, []), (11, []), (12, []), (13, []), (14, []), (15, []), (16, []), (17, []), (18, []), (19, []), (20, []), (21, []), (22, []), (23, []), (24, []), (25, []), (26, []), (27, []), (29, []), (28, [29]), (30, []), (31, []), (32, [])], [29]) else none))))
def pl_4 (i : Nat) : Option (List (Nat × List Nat) × List Nat) := (bif Nat.blt i 13 then (bif Nat.beq i 10 then some ([(0, []), (1, []), (3, []), (4, []), (9, []), (10, []), (2, [0, 3, 9, 10]), (5, [9, 10]), (6, []), (7, []), (8, []), (11, []), (12, [])], [0, 3, 9, 10]) else none) else (bif Nat.blt i 15 then (bif Nat.beq i 13 then some ([(0, []), (1, []), (2, []), (3, []), (4, []), (5, []), (6, [4]), (7, []), (8, []), (9, [])], [4]) else none) else (bif Nat.beq i 15 then some ([(0, []), (1, []), (3, []), (8, []), (2, [0, 8]), (4, [8]), (5, []), (6, []), (7, []), (9, []), (10, [])], [0, 8]) else none)))
def pl_5 (i : Nat) : Option (List (Nat × List Nat) × List Nat) := (bif Nat.beq i 16 then some ([(0, []), (1, []), (2, []), (3, []), (4, []), (5, []), (6, []), (7, []), (8, []), (9, []), (10, []), (11, []), (12, []), (13, []), (14, [])], []) else none)
def pl_6 (i : Nat) : Option (List (Nat × List Nat) × List Nat) := (bif Nat.beq i 18 then some ([(0, []), (1, []), (2, []), (3, []), (4, []), (5, []), (6, []), (7, []), (8, []), (9, []), (10, [8]), (11, []), (12, []), (13, [])], [8]) else none)
def pl_8 (i : Nat) : Option (List (Nat × List Nat) × List Nat) := (bif Nat.beq i 6 then some ([(0, []), (1, []), (2, []), (3, []), (4, []), (5, []), (6, []), (7, []), (8, []), (9, []), (10, []), (11, [])], []) else none)
def pl_9 (i : Nat) : Option (List (Nat × List Nat) × List Nat) := (bif Nat.beq i 19 then some ([(0, []), (1, []), (2, []), (3, []), (4, []), (5, []), (6, []), (7, []), (8, []), (9, []), (10, []), (12, []), (13, []), (14, []), (11, [0]), (15, [0]), (16, [0]), (17, [])], [0]) else none)
def pl_10 (i : Nat) : Option (List (Nat × List Nat) × List Nat) := (bif Nat.beq i 8 then some ([(0, []), (1, []), (2, []), (3, []), (4, []), (5, []), (6, [0]), (7, [])], [0]) else none)
def pl_17 (i : Nat) : Option (List (Nat × List Nat) × List Nat) := (bif Nat.beq i 3 then some ([(0, []), (1, []), (2, []), (4, []), (9, []), (3, [0, 9]), (5, [9]), (6, []), (7, []), (8, []), (10, []), (11, [])], [0, 9]) else none)
def pl_18 (i : Nat) : Option (List (Nat × List Nat) × List Nat) := (bif Nat.beq i 8 then some ([(0, []), (1, []), (2, []), (3, []), (4, []), (5, []), (6, [0]), (7, [])], [0]) else none)
def pl_19 (i : Nat) : Option (List (Nat × List Nat) × List Nat) := (bif Nat.beq i 9 then some ([(0, []), (1, []), (2, []), (4, []), (5, []), (6, []), (3, [4]), (7, []), (8, [])], [4]) else none)
def pl_21 (i : Nat) : Option (List (Nat × List Nat) × List Nat) := (bif Nat.beq i 6 then some ([(0, []), (1, []), (2, []), (3, []), (4, []), (5, []), (6, []), (7, []), (8, []), (9, []), (10, []), (11, [])], []) else none)
def pl_22 (i : Nat) : Option (List (Nat × List Nat) × List Nat) := (bif Nat.blt i 23 then (bif Nat.beq i 12 then some ([(0, []), (1, []), (3, []), (4, []), (5, []), (2, [5]), (6, [5]), (7, []), (8, []), (9, [])], [5]) else none) else (bif Nat.beq i 23 then some ([(0, []), (1, []), (2, []), (3, []), (4, [1]), (5, []), (6, []), (7, []), (8, [])], [1]) else none))
def pl_23 (i : Nat) : Option (List (Nat × List Nat) × List Nat) := (bif Nat.blt i 7 then (bif Nat.beq i 6 then some ([(0, []), (1, []), (2, [1]), (3, [])], [1]) else none) else (bif Nat.beq i 7 then some ([(0, []), (1, []), (2, [1]), (3, [])], [1]) else none))
def pl_26 (i : Nat) : Option (List (Nat × List Nat) × List Nat) := (bif Nat.beq i 24 then some ([(0, []), (1, []), (2, []), (3, [1]), (4, []), (5, []), (6, [])], [1]) else none)
def pl_34 (i : Nat) : Option (List (Nat × List Nat) × List Nat) := (bif Nat.blt i 31 then (bif Nat.beq i 25 then some ([(0, []), (2, []), (3, []), (4, []), (5, []), (1, [2]), (6, []), (7, []), (8, []), (9, []), (10, [])], [2]) else none) else (bif Nat.beq i 31 then some ([(0, []), (2, []), (3, []), (4, []), (5, []), (1, [2]), (6, []), (7, []), (8, []), (9, []), (10, [])], [2]) else none))
def pl_52 (i : Nat) : Option (List (Nat × List Nat) × List Nat) := (bif Nat.beq i 7 then some ([(0, []), (1, []), (2, []), (3, []), (4, []), (5, []), (6, []), (7, []), (8, []), (9, []), (10, []), (11, []), (12, []), (13, []), (14, []), (15, [])], []) else none)
def pl_53 (i : Nat) : Option (List (Nat × List Nat) × List Nat) := (bif Nat.blt i 8 then (bif Nat.beq i 2 then some ([(0, []), (1, []), (2, []), (3, []), (4, []), (5, []), (6, []), (7, []), (8, []), (9, []), (10, []), (11, []), (12, []), (13, []), (14, []), (15, [])], []) else none) else (bif Nat.beq i 8 then some ([(0, []), (1, []), (2, []), (4, []), (3, [0, 4]), (5, []), (6, []), (7, []), (8, []), (9, []), (10, []), (11, [0]), (12, []), (13, []), (14, []), (15, []), (16, [])], [0, 4]) else none))
def pl_63 (i : Nat) : Option (List (Nat × List Nat) × List Nat) := (bif Nat.beq i 18 then some ([(0, []), (1, []), (2, []), (3, []), (4, []), (5, []), (6, []), (7, []), (8, []), (9, []), (10, []), (11, [])], []) else none)
def pl_71 (i : Nat) : Option (List (Nat × List Nat) × List Nat) := (bif Nat.blt i 8 then (bif Nat.beq i 6 then some ([(0, []), (1, []), (3, []), (2, [3]), (4, []), (5, [])], [3]) else none) else (bif Nat.beq i 8 then some ([(0, []), (1, []), (2, []), (4, []), (3, [4]), (5, []), (6, []), (7, [])], [4]) else none))
def pl_74 (i : Nat) : Option (List (Nat × List Nat) × List Nat) := (bif Nat.beq i 6 then some ([(0, []), (1, []), (2, []), (3, []), (4, []), (5, []), (6, []), (7, [])], []) else none)
def pls (f i : Nat) : Option (List (Nat × List Nat) × List Nat) := bif Nat.beq f 3 then pl_3 i else bif Nat.beq f 4 then pl_4 i else bif Nat.beq f 5 then pl_5 i else bif Nat.beq f 6 then pl_6 i else bif Nat.beq f 8 then pl_8 i else bif Nat.beq f 9 then pl_9 i else bif Nat.beq f 10 then pl_10 i else bif Nat.beq f 17 then pl_17 i else bif Nat.beq f 18 then pl_18 i else bif Nat.beq f 19 then pl_19 i else bif Nat.beq f 21 then pl_21 i else bif Nat.beq f 22 then pl_22 i else bif Nat.beq f 23 then pl_23 i else bif Nat.beq f 26 then pl_26 i else bif Nat.beq f 34 then pl_34 i else bif Nat.beq f 52 then pl_52 i else bif Nat.beq f 53 then pl_53 i else bif Nat.beq f 63 then pl_63 i else bif Nat.beq f 71 then pl_71 i else bif Nat.beq f 74 then pl_74 i else none
theorem plok_3 : ((Try.prog.funcs[3]?).bind (fun fn => fn.body)).all (plOk pl_3) = true := by kernel_rfl
theorem plok_4 : ((Try.prog.funcs[4]?).bind (fun fn => fn.body)).all (plOk pl_4) = true := by kernel_rfl
theorem plok_5 : ((Try.prog.funcs[5]?).bind (fun fn => fn.body)).all (plOk pl_5) = true := by kernel_rfl
theorem plok_6 : ((Try.prog.funcs[6]?).bind (fun fn => fn.body)).all (plOk pl_6) = true := by kernel_rfl
theorem plok_8 : ((Try.prog.funcs[8]?).bind (fun fn => fn.body)).all (plOk pl_8) = true := by kernel_rfl
theorem plok_9 : ((Try.prog.funcs[9]?).bind (fun fn => fn.body)).all (plOk pl_9) = true := by kernel_rfl
theorem plok_10 : ((Try.prog.funcs[10]?).bind (fun fn => fn.body)).all (plOk pl_10) = true := by kernel_rfl
theorem plok_17 : ((Try.prog.funcs[17]?).bind (fun fn => fn.body)).all (plOk pl_17) = true := by kernel_rfl
theorem plok_18 : ((Try.prog.funcs[18]?).bind (fun fn => fn.body)).all (plOk pl_18) = true := by kernel_rfl
theorem plok_19 : ((Try.prog.funcs[19]?).bind (fun fn => fn.body)).all (plOk pl_19) = true := by kernel_rfl
theorem plok_21 : ((Try.prog.funcs[21]?).bind (fun fn => fn.body)).all (plOk pl_21) = true := by kernel_rfl
theorem plok_22 : ((Try.prog.funcs[22]?).bind (fun fn => fn.body)).all (plOk pl_22) = true := by kernel_rfl
theorem plok_23 : ((Try.prog.funcs[23]?).bind (fun fn => fn.body)).all (plOk pl_23) = true := by kernel_rfl
theorem plok_26 : ((Try.prog.funcs[26]?).bind (fun fn => fn.body)).all (plOk pl_26) = true := by kernel_rfl
theorem plok_34 : ((Try.prog.funcs[34]?).bind (fun fn => fn.body)).all (plOk pl_34) = true := by kernel_rfl
theorem plok_52 : ((Try.prog.funcs[52]?).bind (fun fn => fn.body)).all (plOk pl_52) = true := by kernel_rfl
theorem plok_53 : ((Try.prog.funcs[53]?).bind (fun fn => fn.body)).all (plOk pl_53) = true := by kernel_rfl
theorem plok_63 : ((Try.prog.funcs[63]?).bind (fun fn => fn.body)).all (plOk pl_63) = true := by kernel_rfl
theorem plok_71 : ((Try.prog.funcs[71]?).bind (fun fn => fn.body)).all (plOk pl_71) = true := by kernel_rfl
theorem plok_74 : ((Try.prog.funcs[74]?).bind (fun fn => fn.body)).all (plOk pl_74) = true := by kernel_rfl

/-- The numbers that cells hold. -/
def decL : List MV → Option (List Int)
  | [] => some []
  | .lit (.int .u64 n) :: l => match decL l with
    | some D => some (n :: D)
    | none => none
  | _ => none
theorem decL_eq : ∀ {l : List MV} {D : List Int}, decL l = some D → l = D.map u64 := by
  intro l
  induction l with
  | nil => intro D h; cases h; rfl
  | cons x l ih =>
    intro D h
    unfold decL at h
    split at h
    · rename_i heq; cases heq
    · rename_i n l' heq
      cases heq
      split at h
      · rename_i D' hD; cases h; rw [ih hD]; rfl
      · cases h
    · cases h
def k_65 (args : List MV) (H : MH) : Option (MV × MH) := match args with
  | [.lit (.int .u64 a), .lit (.int .u64 b), .lit (.int .u64 c)] => bif decide (0 ≤ a) && decide (0 ≤ b) && decide (0 ≤ c) && decide (c ≤ 1) then some (.tup [u64 (add64M a b c).1, u64 (add64M a b c).2], H) else none
  | _ => none
theorem k_65_spec {args : List MV} {H : MH} {r : MV × MH} (h : k_65 args H = some r) : Spec Try.prog 65 args H fun v' H' => v' = r.1 ∧ H' = r.2 := by
  unfold k_65 at h
  split at h
  · rename_i a b c
    rw [Bool.cond_eq_ite] at h
    split at h
    · rename_i hc
      try simp only [Bool.and_eq_true, decide_eq_true_eq] at hc
      cases h
      exact add64_spec hc.1.1.1 hc.1.1.2 ⟨hc.1.2, hc.2⟩ H
    · cases h
  · cases h
def k_68 (args : List MV) (H : MH) : Option (MV × MH) := match args with
  | [.lit (.int .u64 a), .lit (.int .u64 b), .lit (.int .u64 c)] => bif decide (0 ≤ a) && decide (0 ≤ b) && decide (b < 18446744073709551616) && decide (0 ≤ c) && decide (c ≤ 1) then some (.tup [u64 (sub64M a b c).1, u64 (sub64M a b c).2], H) else none
  | _ => none
theorem k_68_spec {args : List MV} {H : MH} {r : MV × MH} (h : k_68 args H = some r) : Spec Try.prog 68 args H fun v' H' => v' = r.1 ∧ H' = r.2 := by
  unfold k_68 at h
  split at h
  · rename_i a b c
    rw [Bool.cond_eq_ite] at h
    split at h
    · rename_i hc
      try simp only [Bool.and_eq_true, decide_eq_true_eq] at hc
      cases h
      exact sub64_spec hc.1.1.1.1 ⟨hc.1.1.1.2, hc.1.1.2⟩ ⟨hc.1.2, hc.2⟩ H
    · cases h
  · cases h
def k_35 (args : List MV) (H : MH) : Option (MV × MH) := match args with
  | [.lit (.int .u64 a), .lit (.int .u64 b)] => bif true then some (.tup [u64 (mulM a b).1, u8 (mulM a b).2], H) else none
  | _ => none
theorem k_35_spec {args : List MV} {H : MH} {r : MV × MH} (h : k_35 args H = some r) : Spec Try.prog 35 args H fun v' H' => v' = r.1 ∧ H' = r.2 := by
  unfold k_35 at h
  split at h
  · rename_i a b
    rw [Bool.cond_eq_ite] at h
    split at h
    · rename_i hc
      try simp only [Bool.and_eq_true, decide_eq_true_eq] at hc
      cases h
      exact mul_spec a b H
    · cases h
  · cases h
def k_34 (args : List MV) (H : MH) : Option (MV × MH) := match args with
  | [.lit (.int .u64 a), .lit (.int .u64 b)] => bif decide (0 ≤ a) && decide (a < 18446744073709551616) && decide (0 ≤ b) && decide (b < 18446744073709551616) then some (.tup [u64 (addM a b).1, u8 (addM a b).2], H) else none
  | _ => none
theorem k_34_spec {args : List MV} {H : MH} {r : MV × MH} (h : k_34 args H = some r) : Spec Try.prog 34 args H fun v' H' => v' = r.1 ∧ H' = r.2 := by
  unfold k_34 at h
  split at h
  · rename_i a b
    rw [Bool.cond_eq_ite] at h
    split at h
    · rename_i hc
      try simp only [Bool.and_eq_true, decide_eq_true_eq] at hc
      cases h
      exact add_spec ⟨hc.1.1.1, hc.1.1.2⟩ ⟨hc.1.2, hc.2⟩ H
    · cases h
  · cases h
def k_32 (args : List MV) (H : MH) : Option (MV × MH) := match args with
  | [.lit (.int .u64 a)] => bif true then some (i64 (kindM a), H) else none
  | _ => none
theorem k_32_spec {args : List MV} {H : MH} {r : MV × MH} (h : k_32 args H = some r) : Spec Try.prog 32 args H fun v' H' => v' = r.1 ∧ H' = r.2 := by
  unfold k_32 at h
  split at h
  · rename_i a
    rw [Bool.cond_eq_ite] at h
    split at h
    · rename_i hc
      try simp only [Bool.and_eq_true, decide_eq_true_eq] at hc
      cases h
      exact kind_spec a H
    · cases h
  · cases h
def k_11 (args : List MV) (H : MH) : Option (MV × MH) := match args with
  | [.lit (.int .u64 a)] => bif true then some (u64 (absM a), H) else none
  | _ => none
theorem k_11_spec {args : List MV} {H : MH} {r : MV × MH} (h : k_11 args H = some r) : Spec Try.prog 11 args H fun v' H' => v' = r.1 ∧ H' = r.2 := by
  unfold k_11 at h
  split at h
  · rename_i a
    rw [Bool.cond_eq_ite] at h
    split at h
    · rename_i hc
      try simp only [Bool.and_eq_true, decide_eq_true_eq] at hc
      cases h
      exact abs_spec a H
    · cases h
  · cases h
def k_43 (args : List MV) (H : MH) : Option (MV × MH) := match args with
  | [.lit (.int .u64 a)] => bif true then some (bl (negM a), H) else none
  | _ => none
theorem k_43_spec {args : List MV} {H : MH} {r : MV × MH} (h : k_43 args H = some r) : Spec Try.prog 43 args H fun v' H' => v' = r.1 ∧ H' = r.2 := by
  unfold k_43 at h
  split at h
  · rename_i a
    rw [Bool.cond_eq_ite] at h
    split at h
    · rename_i hc
      try simp only [Bool.and_eq_true, decide_eq_true_eq] at hc
      cases h
      exact neg_spec a H
    · cases h
  · cases h
def k_44 (args : List MV) (H : MH) : Option (MV × MH) := match args with
  | [.lit (.int .u64 a)] => bif true then some (u64 (flipM a), H) else none
  | _ => none
theorem k_44_spec {args : List MV} {H : MH} {r : MV × MH} (h : k_44 args H = some r) : Spec Try.prog 44 args H fun v' H' => v' = r.1 ∧ H' = r.2 := by
  unfold k_44 at h
  split at h
  · rename_i a
    rw [Bool.cond_eq_ite] at h
    split at h
    · rename_i hc
      try simp only [Bool.and_eq_true, decide_eq_true_eq] at hc
      cases h
      exact flip_spec a H
    · cases h
  · cases h
def k_38 (args : List MV) (H : MH) : Option (MV × MH) := match args with
  | [.lit (.int .u64 a)] => bif true then some (bl (finiteM a), H) else none
  | _ => none
theorem k_38_spec {args : List MV} {H : MH} {r : MV × MH} (h : k_38 args H = some r) : Spec Try.prog 38 args H fun v' H' => v' = r.1 ∧ H' = r.2 := by
  unfold k_38 at h
  split at h
  · rename_i a
    rw [Bool.cond_eq_ite] at h
    split at h
    · rename_i hc
      try simp only [Bool.and_eq_true, decide_eq_true_eq] at hc
      cases h
      exact finite_spec a H
    · cases h
  · cases h
def k_64 (args : List MV) (H : MH) : Option (MV × MH) := match args with
  | [.lit (.int .u64 a)] => bif true then some (bl (signalsM a), H) else none
  | _ => none
theorem k_64_spec {args : List MV} {H : MH} {r : MV × MH} (h : k_64 args H = some r) : Spec Try.prog 64 args H fun v' H' => v' = r.1 ∧ H' = r.2 := by
  unfold k_64 at h
  split at h
  · rename_i a
    rw [Bool.cond_eq_ite] at h
    split at h
    · rename_i hc
      try simp only [Bool.and_eq_true, decide_eq_true_eq] at hc
      cases h
      exact signals_spec a H
    · cases h
  · cases h
def k_47 (args : List MV) (H : MH) : Option (MV × MH) := match args with
  | [.lit (.int .u64 a)] => bif true then some (.tup [u64 (partsM a).1, i64 (partsM a).2], H) else none
  | _ => none
theorem k_47_spec {args : List MV} {H : MH} {r : MV × MH} (h : k_47 args H = some r) : Spec Try.prog 47 args H fun v' H' => v' = r.1 ∧ H' = r.2 := by
  unfold k_47 at h
  split at h
  · rename_i a
    rw [Bool.cond_eq_ite] at h
    split at h
    · rename_i hc
      try simp only [Bool.and_eq_true, decide_eq_true_eq] at hc
      cases h
      exact parts_spec a H
    · cases h
  · cases h
def k_59 (args : List MV) (H : MH) : Option (MV × MH) := match args with
  | [.lit (.int .u64 a), .lit (.int .u64 b)] => bif true then some (wd (mul64M a b), H) else none
  | _ => none
theorem k_59_spec {args : List MV} {H : MH} {r : MV × MH} (h : k_59 args H = some r) : Spec Try.prog 59 args H fun v' H' => v' = r.1 ∧ H' = r.2 := by
  unfold k_59 at h
  split at h
  · rename_i a b
    rw [Bool.cond_eq_ite] at h
    split at h
    · rename_i hc
      try simp only [Bool.and_eq_true, decide_eq_true_eq] at hc
      cases h
      exact wmul_spec a b H
    · cases h
  · cases h
def k_73 (args : List MV) (H : MH) : Option (MV × MH) := match args with
  | [.agg [.lit (.int .u64 a1), .lit (.int .u64 a2)], .agg [.lit (.int .u64 b1), .lit (.int .u64 b2)]] => bif true then some (i64 (wcmpM (a1, a2) (b1, b2)), H) else none
  | _ => none
theorem k_73_spec {args : List MV} {H : MH} {r : MV × MH} (h : k_73 args H = some r) : Spec Try.prog 73 args H fun v' H' => v' = r.1 ∧ H' = r.2 := by
  unfold k_73 at h
  split at h
  · rename_i a1 a2 b1 b2
    rw [Bool.cond_eq_ite] at h
    split at h
    · rename_i hc
      try simp only [Bool.and_eq_true, decide_eq_true_eq] at hc
      cases h
      exact wcmp_spec (a1, a2) (b1, b2) H
    · cases h
  · cases h
def k_52 (args : List MV) (H : MH) : Option (MV × MH) := match args with
  | [.agg [.lit (.int .u64 a1), .lit (.int .u64 a2)], .lit (.int .i64 b)] => bif true then some (wd (wleftM (a1, a2) b), H) else none
  | _ => none
theorem k_52_spec {args : List MV} {H : MH} {r : MV × MH} (h : k_52 args H = some r) : Spec Try.prog 52 args H fun v' H' => v' = r.1 ∧ H' = r.2 := by
  unfold k_52 at h
  split at h
  · rename_i a1 a2 b
    rw [Bool.cond_eq_ite] at h
    split at h
    · rename_i hc
      try simp only [Bool.and_eq_true, decide_eq_true_eq] at hc
      cases h
      exact wleft_spec (a1, a2) b H
    · cases h
  · cases h
def k_55 (args : List MV) (H : MH) : Option (MV × MH) := match args with
  | [.lit (.bool a), .agg [.lit (.int .u64 b1), .lit (.int .u64 b2)], .lit (.int .i64 c), .lit (.bool d)] => bif decide (0 ≤ b1) && decide (b1 < 18446744073709551616) && decide (0 ≤ b2) && decide (b2 < 18446744073709551616) then some (.tup [u64 (roundM a (b1, b2) c d).1, u8 (roundM a (b1, b2) c d).2], H) else none
  | _ => none
theorem k_55_spec {args : List MV} {H : MH} {r : MV × MH} (h : k_55 args H = some r) : Spec Try.prog 55 args H fun v' H' => v' = r.1 ∧ H' = r.2 := by
  unfold k_55 at h
  split at h
  · rename_i a b1 b2 c d
    rw [Bool.cond_eq_ite] at h
    split at h
    · rename_i hc
      try simp only [Bool.and_eq_true, decide_eq_true_eq] at hc
      cases h
      exact round_spec a ⟨⟨hc.1.1.1, hc.1.1.2⟩, ⟨hc.1.2, hc.2⟩⟩ c d H
    · cases h
  · cases h
def k_70 (args : List MV) (H : MH) : Option (MV × MH) := match args with
  | [.lit (.int .u64 a)] => bif decide (0 ≤ a) && decide (a < 18446744073709551616) then some (i64 (lenM a), H) else none
  | _ => none
theorem k_70_spec {args : List MV} {H : MH} {r : MV × MH} (h : k_70 args H = some r) : Spec Try.prog 70 args H fun v' H' => v' = r.1 ∧ H' = r.2 := by
  unfold k_70 at h
  split at h
  · rename_i a
    rw [Bool.cond_eq_ite] at h
    split at h
    · rename_i hc
      try simp only [Bool.and_eq_true, decide_eq_true_eq] at hc
      cases h
      exact len_spec hc H
    · cases h
  · cases h
def k_14 (args : List MV) (H : MH) : Option (MV × MH) := match args with
  | [.agg [.lit (.int .i64 r), .lit (.int .i64 c), .lit (.int .i64 s), .slice p 0 n z 1], .lit (.int .i64 i), .lit (.int .i64 k)] => match hget H p with
    | some ob => match decL ob.cells with
      | some D => bif decide (s = c) && decide (0 ≤ r) && decide (r ≤ 4096) && decide (0 ≤ c) && decide (c ≤ 4096) && decide (D.length = (r * c).toNat) && decide (D.length = n) then some (u64 (atM r c c D i k), H) else none
      | none => none
    | none => none
  | _ => none
theorem k_14_spec {args : List MV} {H : MH} {u : MV × MH} (h : k_14 args H = some u) : Spec Try.prog 14 args H fun v' H' => v' = u.1 ∧ H' = u.2 := by
  unfold k_14 at h
  split at h
  · rename_i r c s p n z i k
    split at h
    · rename_i ob hob
      split at h
      · rename_i D hD
        rw [Bool.cond_eq_ite] at h
        split at h
        · rename_i hc
          simp only [Bool.and_eq_true, decide_eq_true_eq] at hc
          have hs := hc.1.1.1.1.1.1
          subst hs
          obtain ⟨cells, rw⟩ := ob
          have hcell := decL_eq hD
          simp only at hcell
          subst hcell
          have hp := hob
          cases h
          exact at_ok ⟨hc.1.1.1.1.1.2, hc.1.1.1.1.2, hc.1.1.1.2, hc.1.1.2, hc.1.2⟩ i k hp hc.2
        · cases h
      · cases h
    · cases h
  · cases h
def k_15 (args : List MV) (H : MH) : Option (MV × MH) := match args with
  | [.agg [.lit (.int .i64 r), .lit (.int .i64 c), .lit (.int .i64 s), .slice p 0 n z 1], .lit (.int .i64 i), .lit (.int .i64 k), .lit (.int .u64 b)] => match hget H p with
    | some ob => match decL ob.cells with
      | some D => bif decide (s = c) && decide (0 ≤ r) && decide (r ≤ 4096) && decide (0 ≤ c) && decide (c ≤ 4096) && decide (D.length = (r * c).toNat) && decide (D.length = n) then bif ob.rw then some (.tup [], H.set p (some ⟨(setM r c c D i k b).map u64, true⟩)) else none else none
      | none => none
    | none => none
  | _ => none
theorem k_15_spec {args : List MV} {H : MH} {u : MV × MH} (h : k_15 args H = some u) : Spec Try.prog 15 args H fun v' H' => v' = u.1 ∧ H' = u.2 := by
  unfold k_15 at h
  split at h
  · rename_i r c s p n z i k b
    split at h
    · rename_i ob hob
      split at h
      · rename_i D hD
        rw [Bool.cond_eq_ite] at h
        split at h
        · rename_i hc
          simp only [Bool.and_eq_true, decide_eq_true_eq] at hc
          have hs := hc.1.1.1.1.1.1
          subst hs
          obtain ⟨cells, rw⟩ := ob
          have hcell := decL_eq hD
          simp only at hcell
          subst hcell
          cases rw with
          | false => cases h
          | true =>
            have hp := hob
            cases h
            exact set_ok ⟨hc.1.1.1.1.1.2, hc.1.1.1.1.2, hc.1.1.1.2, hc.1.1.2, hc.1.2⟩ i k b hp hc.2
        · cases h
      · cases h
    · cases h
  · cases h
def kn (f : FuncId) (args : List MV) (H : MH) : Option (MV × MH) := bif Nat.beq f 65 then k_65 args H else bif Nat.beq f 68 then k_68 args H else bif Nat.beq f 35 then k_35 args H else bif Nat.beq f 34 then k_34 args H else bif Nat.beq f 32 then k_32 args H else bif Nat.beq f 11 then k_11 args H else bif Nat.beq f 43 then k_43 args H else bif Nat.beq f 44 then k_44 args H else bif Nat.beq f 38 then k_38 args H else bif Nat.beq f 64 then k_64 args H else bif Nat.beq f 47 then k_47 args H else bif Nat.beq f 59 then k_59 args H else bif Nat.beq f 73 then k_73 args H else bif Nat.beq f 52 then k_52 args H else bif Nat.beq f 55 then k_55 args H else bif Nat.beq f 70 then k_70 args H else bif Nat.beq f 14 then k_14 args H else bif Nat.beq f 15 then k_15 args H else none
theorem kn_spec : ∀ f args H r, kn f args H = some r → Spec Try.prog f args H fun v' H' => v' = r.1 ∧ H' = r.2 := by
  intro f args H r h
  unfold kn at h
  rw [beq_dec', Bool.cond_decide] at h
  split at h
  · rename_i hf
    subst hf
    exact k_65_spec h
  rw [beq_dec', Bool.cond_decide] at h
  split at h
  · rename_i hf
    subst hf
    exact k_68_spec h
  rw [beq_dec', Bool.cond_decide] at h
  split at h
  · rename_i hf
    subst hf
    exact k_35_spec h
  rw [beq_dec', Bool.cond_decide] at h
  split at h
  · rename_i hf
    subst hf
    exact k_34_spec h
  rw [beq_dec', Bool.cond_decide] at h
  split at h
  · rename_i hf
    subst hf
    exact k_32_spec h
  rw [beq_dec', Bool.cond_decide] at h
  split at h
  · rename_i hf
    subst hf
    exact k_11_spec h
  rw [beq_dec', Bool.cond_decide] at h
  split at h
  · rename_i hf
    subst hf
    exact k_43_spec h
  rw [beq_dec', Bool.cond_decide] at h
  split at h
  · rename_i hf
    subst hf
    exact k_44_spec h
  rw [beq_dec', Bool.cond_decide] at h
  split at h
  · rename_i hf
    subst hf
    exact k_38_spec h
  rw [beq_dec', Bool.cond_decide] at h
  split at h
  · rename_i hf
    subst hf
    exact k_64_spec h
  rw [beq_dec', Bool.cond_decide] at h
  split at h
  · rename_i hf
    subst hf
    exact k_47_spec h
  rw [beq_dec', Bool.cond_decide] at h
  split at h
  · rename_i hf
    subst hf
    exact k_59_spec h
  rw [beq_dec', Bool.cond_decide] at h
  split at h
  · rename_i hf
    subst hf
    exact k_73_spec h
  rw [beq_dec', Bool.cond_decide] at h
  split at h
  · rename_i hf
    subst hf
    exact k_52_spec h
  rw [beq_dec', Bool.cond_decide] at h
  split at h
  · rename_i hf
    subst hf
    exact k_55_spec h
  rw [beq_dec', Bool.cond_decide] at h
  split at h
  · rename_i hf
    subst hf
    exact k_70_spec h
  rw [beq_dec', Bool.cond_decide] at h
  split at h
  · rename_i hf
    subst hf
    exact k_14_spec h
  rw [beq_dec', Bool.cond_decide] at h
  split at h
  · rename_i hf
    subst hf
    exact k_15_spec h
  cases h
def roF (f : FuncId) : Bool := (match ((bif Nat.blt f 24 then (bif Nat.blt f 16 then (bif Nat.blt f 12 then (bif Nat.blt f 10 then (bif Nat.beq f 9 then some () else none) else (bif Nat.beq f 10 then some () else none)) else (bif Nat.blt f 13 then (bif Nat.beq f 12 then some () else none) else (bif Nat.blt f 15 then (bif Nat.beq f 13 then some () else none) else (bif Nat.beq f 15 then some () else none)))) else (bif Nat.blt f 18 then (bif Nat.blt f 17 then (bif Nat.beq f 16 then some () else none) else (bif Nat.beq f 17 then some () else none)) else (bif Nat.blt f 22 then (bif Nat.beq f 18 then some () else none) else (bif Nat.blt f 23 then (bif Nat.beq f 22 then some () else none) else (bif Nat.beq f 23 then some () else none))))) else (bif Nat.blt f 40 then (bif Nat.blt f 26 then (bif Nat.blt f 25 then (bif Nat.beq f 24 then some () else none) else (bif Nat.beq f 25 then some () else none)) else (bif Nat.blt f 29 then (bif Nat.beq f 26 then some () else none) else (bif Nat.blt f 33 then (bif Nat.beq f 29 then some () else none) else (bif Nat.beq f 33 then some () else none)))) else (bif Nat.blt f 45 then (bif Nat.blt f 41 then (bif Nat.beq f 40 then some () else none) else (bif Nat.blt f 42 then (bif Nat.beq f 41 then some () else none) else (bif Nat.beq f 42 then some () else none))) else (bif Nat.blt f 48 then (bif Nat.beq f 45 then some () else none) else (bif Nat.blt f 62 then (bif Nat.beq f 48 then some () else none) else (bif Nat.beq f 62 then some () else none)))))) : Option Unit) with | some _ => false | none => true)
def iso (f : FuncId) : Bool := !(Nat.beq f 25) && !(Nat.beq f 24) && !(Nat.beq f 40) && !(Nat.beq f 10)
theorem fok : FOk Try.prog pls := by
  have h : Try.prog.funcs.all (fun fn => !(fn.name == "runtime.NumGoroutine") && (match fn.body with | some c => codeOk fn.ntmps c | none => true)) = true := by decide +kernel
  intro f fn c hf hb
  have := Array.all_eq_true_iff_forall_mem.1 h fn (Array.mem_of_getElem? hf)
  simp only [Bool.and_eq_true, hb] at this
  refine ⟨by simpa using this.1, this.2, ?_⟩
  by_cases h3 : f = 3
  · subst h3
    have h := plok_3
    rw [hf, Option.bind_some, hb, Option.all_some] at h
    have e : pls 3 = pl_3 := by funext i; rfl
    rw [e]; exact h
  by_cases h4 : f = 4
  · subst h4
    have h := plok_4
    rw [hf, Option.bind_some, hb, Option.all_some] at h
    have e : pls 4 = pl_4 := by funext i; rfl
    rw [e]; exact h
  by_cases h5 : f = 5
  · subst h5
    have h := plok_5
    rw [hf, Option.bind_some, hb, Option.all_some] at h
    have e : pls 5 = pl_5 := by funext i; rfl
    rw [e]; exact h
  by_cases h6 : f = 6
  · subst h6
    have h := plok_6
    rw [hf, Option.bind_some, hb, Option.all_some] at h
    have e : pls 6 = pl_6 := by funext i; rfl
    rw [e]; exact h
  by_cases h8 : f = 8
  · subst h8
    have h := plok_8
    rw [hf, Option.bind_some, hb, Option.all_some] at h
    have e : pls 8 = pl_8 := by funext i; rfl
    rw [e]; exact h
  by_cases h9 : f = 9
  · subst h9
    have h := plok_9
    rw [hf, Option.bind_some, hb, Option.all_some] at h
    have e : pls 9 = pl_9 := by funext i; rfl
    rw [e]; exact h
  by_cases h10 : f = 10
  · subst h10
    have h := plok_10
    rw [hf, Option.bind_some, hb, Option.all_some] at h
    have e : pls 10 = pl_10 := by funext i; rfl
    rw [e]; exact h
  by_cases h17 : f = 17
  · subst h17
    have h := plok_17
    rw [hf, Option.bind_some, hb, Option.all_some] at h
    have e : pls 17 = pl_17 := by funext i; rfl
    rw [e]; exact h
  by_cases h18 : f = 18
  · subst h18
    have h := plok_18
    rw [hf, Option.bind_some, hb, Option.all_some] at h
    have e : pls 18 = pl_18 := by funext i; rfl
    rw [e]; exact h
  by_cases h19 : f = 19
  · subst h19
    have h := plok_19
    rw [hf, Option.bind_some, hb, Option.all_some] at h
    have e : pls 19 = pl_19 := by funext i; rfl
    rw [e]; exact h
  by_cases h21 : f = 21
  · subst h21
    have h := plok_21
    rw [hf, Option.bind_some, hb, Option.all_some] at h
    have e : pls 21 = pl_21 := by funext i; rfl
    rw [e]; exact h
  by_cases h22 : f = 22
  · subst h22
    have h := plok_22
    rw [hf, Option.bind_some, hb, Option.all_some] at h
    have e : pls 22 = pl_22 := by funext i; rfl
    rw [e]; exact h
  by_cases h23 : f = 23
  · subst h23
    have h := plok_23
    rw [hf, Option.bind_some, hb, Option.all_some] at h
    have e : pls 23 = pl_23 := by funext i; rfl
    rw [e]; exact h
  by_cases h26 : f = 26
  · subst h26
    have h := plok_26
    rw [hf, Option.bind_some, hb, Option.all_some] at h
    have e : pls 26 = pl_26 := by funext i; rfl
    rw [e]; exact h
  by_cases h34 : f = 34
  · subst h34
    have h := plok_34
    rw [hf, Option.bind_some, hb, Option.all_some] at h
    have e : pls 34 = pl_34 := by funext i; rfl
    rw [e]; exact h
  by_cases h52 : f = 52
  · subst h52
    have h := plok_52
    rw [hf, Option.bind_some, hb, Option.all_some] at h
    have e : pls 52 = pl_52 := by funext i; rfl
    rw [e]; exact h
  by_cases h53 : f = 53
  · subst h53
    have h := plok_53
    rw [hf, Option.bind_some, hb, Option.all_some] at h
    have e : pls 53 = pl_53 := by funext i; rfl
    rw [e]; exact h
  by_cases h63 : f = 63
  · subst h63
    have h := plok_63
    rw [hf, Option.bind_some, hb, Option.all_some] at h
    have e : pls 63 = pl_63 := by funext i; rfl
    rw [e]; exact h
  by_cases h71 : f = 71
  · subst h71
    have h := plok_71
    rw [hf, Option.bind_some, hb, Option.all_some] at h
    have e : pls 71 = pl_71 := by funext i; rfl
    rw [e]; exact h
  by_cases h74 : f = 74
  · subst h74
    have h := plok_74
    rw [hf, Option.bind_some, hb, Option.all_some] at h
    have e : pls 74 = pl_74 := by funext i; rfl
    rw [e]; exact h
  exact plOk_none (fun i => by simp only [pls, beq_dec', h3, h4, h5, h6, h8, h9, h10, h17, h18, h19, h21, h22, h23, h26, h34, h52, h53, h63, h71, h74, decide_false, cond_false]) c
theorem runs {f : FuncId} {args : List MV} {r : MV} (N n : Nat) (hcl : clBs args = true) (hcr : clB r = true) (h : ∀ σ, (match callE Try.prog pls kn iso roF N n f args [] σ 0 with | some ((v, _), _) => eqB v r | none => false) = true) (H : MH) :
    Spec Try.prog f args H fun v H' => v = r ∧ H' = H := run_bool follows pls fok N n kn_spec iso roF hcl hcr h H
end Go.Proofs.Ytojppdcbnpinbaa.M
