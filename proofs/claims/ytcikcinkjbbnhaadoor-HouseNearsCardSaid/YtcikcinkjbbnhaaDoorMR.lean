/- What a run by the kernel needs of this seat. -/
import Derived.Test.YtcikcinkjbbnhaaDoorM19
import Derived.Test.YtcikcinkjbbnhaaDoorC11
set_option linter.unusedSimpArgs false
set_option linter.unusedVariables false
set_option maxRecDepth 10000
namespace Go.Proofs.YtcikcinkjbbnhaaDoor.M
open Go Go.Proofs
def pl_3 (i : Nat) : Option (List (Nat × List Nat) × List Nat) := (bif Nat.beq i 17 then some ([(0, []), (1, []), (2, []), (5, []), (6, []), (7, []), (8, []), (9, []), (10, []), (11, []), (3, [0]), (4, []), (12, []), (13, []), (14, [])], [0]) else none)
def pl_4 (i : Nat) : Option (List (Nat × List Nat) × List Nat) := (bif Nat.blt i 36 then (bif Nat.beq i 12 then some ([(0, []), (1, []), (2, []), (3, []), (4, []), (5, []), (6, []), (7, []), (8, [])], []) else none) else (bif Nat.blt i 45 then (bif Nat.beq i 36 then some ([(0, []), (1, [0]), (2, []), (3, []), (4, []), (5, []), (6, [5]), (7, []), (8, []), (9, [])], [0, 5]) else none) else (bif Nat.beq i 45 then some ([(0, []), (1, []), (2, []), (8, []), (9, []), (10, []), (3, [0]), (4, []), (5, []), (6, []), (7, []), (11, []), (12, []), (13, []), (14, []), (15, [])], [0]) else none)))
def pl_5 (i : Nat) : Option (List (Nat × List Nat) × List Nat) := (bif Nat.blt i 68 then (bif Nat.beq i 31 then some ([(0, []), (1, []), (2, []), (4, []), (5, []), (6, []), (7, []), (8, []), (3, [8]), (9, [])], [8]) else none) else (bif Nat.blt i 73 then (bif Nat.beq i 68 then some ([(0, []), (1, []), (2, []), (3, []), (6, []), (7, []), (8, []), (9, []), (4, [0, 9]), (5, [0, 9]), (10, [0]), (11, []), (12, [])], [0, 9]) else none) else (bif Nat.beq i 73 then some ([(0, []), (1, []), (2, []), (3, []), (4, []), (5, []), (6, []), (7, []), (8, []), (9, []), (10, [5, 6]), (11, [5, 6]), (12, [5]), (13, []), (14, []), (15, [])], [5, 6]) else none)))
def pl_8 (i : Nat) : Option (List (Nat × List Nat) × List Nat) := (bif Nat.blt i 22 then (bif Nat.beq i 12 then some ([(0, []), (1, []), (3, []), (4, []), (5, []), (11, []), (12, []), (2, [0, 5, 11, 12]), (6, [11, 12]), (7, []), (8, []), (9, []), (10, []), (13, []), (14, []), (15, [])], [0, 5, 11, 12]) else none) else (bif Nat.beq i 22 then some ([(0, []), (1, []), (2, []), (3, []), (4, []), (5, []), (7, []), (8, []), (9, []), (6, [7]), (10, []), (11, []), (12, [])], [7]) else none))
def pl_11 (i : Nat) : Option (List (Nat × List Nat) × List Nat) := (bif Nat.blt i 23 then (bif Nat.beq i 12 then some ([(0, []), (1, []), (3, []), (4, []), (5, []), (2, [5]), (6, [5]), (7, []), (8, []), (9, [])], [5]) else none) else (bif Nat.beq i 23 then some ([(0, []), (1, []), (2, []), (3, []), (4, [1]), (5, []), (6, []), (7, []), (8, [])], [1]) else none))
def pl_13 (i : Nat) : Option (List (Nat × List Nat) × List Nat) := (bif Nat.blt i 8 then (bif Nat.beq i 5 then some ([(0, []), (1, []), (2, []), (3, []), (4, []), (5, []), (6, []), (7, []), (8, []), (9, []), (10, []), (11, []), (12, [])], []) else none) else (bif Nat.beq i 8 then some ([(0, []), (1, []), (3, []), (4, []), (6, []), (2, [3, 4, 6]), (5, [6]), (7, []), (8, []), (9, []), (10, [])], [3, 4, 6]) else none))
def pl_14 (i : Nat) : Option (List (Nat × List Nat) × List Nat) := (bif Nat.beq i 7 then some ([(0, []), (1, []), (2, []), (3, []), (4, []), (5, []), (6, []), (7, []), (8, []), (9, []), (10, [4]), (11, []), (12, []), (13, []), (14, [])], [4]) else none)
def pl_15 (i : Nat) : Option (List (Nat × List Nat) × List Nat) := (bif Nat.beq i 5 then some ([(0, []), (1, []), (2, []), (3, []), (4, []), (5, []), (6, []), (7, []), (8, []), (9, [0]), (10, []), (11, [])], [0]) else none)
def pl_24 (i : Nat) : Option (List (Nat × List Nat) × List Nat) := (bif Nat.beq i 1 then some ([(0, []), (1, []), (2, [0]), (3, []), (4, [])], [0]) else none)
def pl_26 (i : Nat) : Option (List (Nat × List Nat) × List Nat) := (bif Nat.blt i 30 then (bif Nat.blt i 29 then (bif Nat.beq i 18 then some ([(0, []), (1, []), (2, []), (3, []), (4, []), (5, []), (7, []), (8, []), (9, []), (10, []), (11, []), (6, [8, 11]), (12, []), (13, []), (14, [])], [8, 11]) else none) else (bif Nat.beq i 29 then some ([(0, []), (1, []), (2, []), (3, []), (4, []), (5, []), (7, []), (8, []), (9, []), (10, []), (6, [10]), (11, []), (12, []), (13, [])], [10]) else none)) else (bif Nat.blt i 36 then (bif Nat.beq i 30 then some ([(0, []), (1, []), (2, []), (3, []), (4, []), (5, []), (6, []), (7, [0]), (8, [0]), (9, [])], [0]) else none) else (bif Nat.blt i 39 then (bif Nat.beq i 36 then some ([(0, []), (1, []), (2, []), (3, []), (4, []), (5, []), (6, []), (7, []), (8, [])], []) else none) else (bif Nat.beq i 39 then some ([(0, []), (1, []), (2, [1]), (3, []), (4, [])], [1]) else none))))
def pl_28 (i : Nat) : Option (List (Nat × List Nat) × List Nat) := (bif Nat.blt i 25 then (bif Nat.beq i 19 then some ([(0, []), (1, []), (2, []), (3, []), (4, []), (5, []), (7, []), (6, [1]), (8, []), (9, [])], [1]) else none) else (bif Nat.beq i 25 then some ([(0, []), (1, []), (2, []), (3, []), (4, []), (5, []), (6, [])], []) else none))
def pl_29 (i : Nat) : Option (List (Nat × List Nat) × List Nat) := (bif Nat.beq i 6 then some ([(0, []), (1, []), (2, []), (3, []), (4, []), (5, []), (6, []), (7, []), (8, []), (9, []), (10, []), (11, [])], []) else none)
def pl_30 (i : Nat) : Option (List (Nat × List Nat) × List Nat) := (bif Nat.beq i 19 then some ([(0, []), (1, []), (2, []), (3, []), (4, []), (5, []), (6, []), (7, []), (8, []), (9, []), (10, []), (12, []), (13, []), (14, []), (11, [0]), (15, [0]), (16, [0]), (17, [])], [0]) else none)
def pl_33 (i : Nat) : Option (List (Nat × List Nat) × List Nat) := (bif Nat.beq i 6 then some ([(0, []), (1, []), (2, []), (3, []), (4, []), (5, []), (6, []), (7, []), (8, []), (9, []), (10, []), (11, [])], []) else none)
def pl_35 (i : Nat) : Option (List (Nat × List Nat) × List Nat) := (bif Nat.beq i 24 then some ([(0, []), (1, []), (2, []), (3, [1]), (4, []), (5, []), (6, [])], [1]) else none)
def pl_36 (i : Nat) : Option (List (Nat × List Nat) × List Nat) := (bif Nat.beq i 9 then some ([(0, []), (1, []), (2, []), (4, []), (5, []), (6, []), (3, [4]), (7, []), (8, [])], [4]) else none)
def pl_37 (i : Nat) : Option (List (Nat × List Nat) × List Nat) := (bif Nat.beq i 9 then some ([(0, []), (1, []), (2, []), (3, [0]), (4, []), (5, [])], [0]) else none)
def pl_40 (i : Nat) : Option (List (Nat × List Nat) × List Nat) := (bif Nat.beq i 9 then some ([(0, []), (1, []), (2, []), (3, []), (4, []), (5, []), (6, []), (7, []), (8, []), (9, []), (10, []), (11, []), (12, []), (13, []), (14, [])], []) else none)
def pl_43 (i : Nat) : Option (List (Nat × List Nat) × List Nat) := (bif Nat.beq i 8 then some ([(0, []), (1, []), (2, []), (3, []), (4, []), (5, []), (6, [0]), (7, [])], [0]) else none)
def pl_44 (i : Nat) : Option (List (Nat × List Nat) × List Nat) := (bif Nat.blt i 7 then (bif Nat.blt i 6 then (bif Nat.beq i 5 then some ([(0, []), (1, []), (2, []), (4, []), (5, []), (6, []), (7, []), (9, []), (10, []), (11, []), (12, []), (3, [4, 9]), (8, [9]), (13, []), (14, []), (15, []), (16, [])], [4, 9]) else none) else (bif Nat.beq i 6 then some ([(0, []), (1, []), (2, []), (3, []), (6, []), (7, []), (9, []), (10, []), (4, [7]), (5, [7]), (8, []), (11, []), (12, []), (13, [])], [7]) else none)) else (bif Nat.blt i 9 then (bif Nat.beq i 7 then some ([(0, []), (1, []), (2, []), (3, []), (4, []), (5, []), (6, []), (9, []), (10, []), (7, [10]), (8, [10]), (11, []), (12, []), (13, [])], [10]) else none) else (bif Nat.blt i 29 then (bif Nat.beq i 9 then some ([(0, []), (2, []), (1, [2]), (3, []), (4, []), (5, [])], [2]) else none) else (bif Nat.beq i 29 then some ([(0, []), (1, []), (2, [1]), (3, []), (4, [])], [1]) else none))))
def pl_47 (i : Nat) : Option (List (Nat × List Nat) × List Nat) := (bif Nat.blt i 14 then (bif Nat.beq i 13 then some ([(0, []), (1, []), (2, []), (3, []), (6, []), (7, []), (8, []), (13, []), (14, []), (15, []), (18, []), (19, []), (20, []), (4, [0, 6, 13, 18]), (5, [0, 6, 13, 18]), (9, [0, 13, 18]), (10, [0, 13, 18]), (11, [0, 13, 18]), (12, [13, 18]), (16, [18]), (17, [18]), (21, []), (22, []), (23, []), (24, []), (25, [])], [0, 6, 13, 18]) else none) else (bif Nat.blt i 16 then (bif Nat.beq i 14 then some ([(0, []), (1, []), (2, []), (3, [0]), (4, []), (5, [])], [0]) else none) else (bif Nat.beq i 16 then some ([(0, []), (1, []), (3, []), (5, []), (2, [0, 3, 5]), (4, [0, 5]), (6, [0]), (7, []), (8, []), (9, [])], [0, 3, 5]) else none)))
def pl_48 (i : Nat) : Option (List (Nat × List Nat) × List Nat) := (bif Nat.blt i 16 then (bif Nat.beq i 15 then some ([(0, []), (1, []), (2, []), (3, []), (6, []), (7, []), (8, []), (4, [0, 6]), (5, [0, 6]), (9, [0]), (10, [0]), (11, [0]), (12, []), (13, [])], [0, 6]) else none) else (bif Nat.blt i 18 then (bif Nat.beq i 16 then some ([(0, []), (1, []), (2, []), (3, [0]), (4, []), (5, [])], [0]) else none) else (bif Nat.beq i 18 then some ([(0, []), (1, []), (2, []), (3, [0]), (4, []), (5, []), (6, [])], [0]) else none)))
def pl_69 (i : Nat) : Option (List (Nat × List Nat) × List Nat) := (bif Nat.beq i 3 then some ([(0, []), (1, []), (2, []), (3, []), (4, []), (5, []), (6, []), (9, []), (10, []), (11, []), (12, []), (13, []), (14, []), (15, []), (18, []), (7, [11, 13]), (8, [11, 13]), (16, []), (17, []), (19, []), (20, []), (21, [])], [11, 13]) else none)
def pl_70 (i : Nat) : Option (List (Nat × List Nat) × List Nat) := (bif Nat.blt i 9 then (bif Nat.beq i 8 then some ([(0, []), (1, []), (2, []), (3, []), (4, []), (5, []), (6, []), (7, []), (8, [])], []) else none) else (bif Nat.beq i 9 then some ([(0, []), (1, []), (2, []), (3, []), (4, []), (5, []), (6, []), (7, []), (8, [])], []) else none))
def pl_74 (i : Nat) : Option (List (Nat × List Nat) × List Nat) := (bif Nat.blt i 7 then (bif Nat.beq i 6 then some ([(0, []), (1, []), (2, [1]), (3, [])], [1]) else none) else (bif Nat.beq i 7 then some ([(0, []), (1, []), (2, [1]), (3, [])], [1]) else none))
def pl_80 (i : Nat) : Option (List (Nat × List Nat) × List Nat) := (bif Nat.beq i 18 then some ([(0, []), (1, []), (2, []), (3, []), (4, []), (5, []), (6, []), (7, []), (8, []), (9, []), (10, []), (11, [])], []) else none)
def pl_86 (i : Nat) : Option (List (Nat × List Nat) × List Nat) := (bif Nat.beq i 7 then some ([(0, []), (1, []), (2, []), (3, []), (4, []), (5, []), (6, []), (7, []), (8, []), (9, []), (10, []), (11, []), (12, []), (13, []), (14, [])], []) else none)
def pl_87 (i : Nat) : Option (List (Nat × List Nat) × List Nat) := (bif Nat.blt i 31 then (bif Nat.beq i 25 then some ([(0, []), (2, []), (3, []), (4, []), (5, []), (1, [2]), (6, []), (7, []), (8, []), (9, []), (10, [])], [2]) else none) else (bif Nat.beq i 31 then some ([(0, []), (2, []), (3, []), (4, []), (5, []), (1, [2]), (6, []), (7, []), (8, []), (9, []), (10, [])], [2]) else none))
def pl_91 (i : Nat) : Option (List (Nat × List Nat) × List Nat) := (bif Nat.beq i 3 then some ([(0, []), (1, []), (2, []), (4, []), (9, []), (3, [0, 9]), (5, [9]), (6, []), (7, []), (8, []), (10, []), (11, [])], [0, 9]) else none)
def pl_93 (i : Nat) : Option (List (Nat × List Nat) × List Nat) := (bif Nat.beq i 7 then some ([(0, []), (1, []), (2, []), (3, []), (4, []), (5, []), (6, []), (7, []), (8, []), (9, []), (10, []), (11, []), (12, []), (13, []), (14, []), (15, [])], []) else none)
def pl_94 (i : Nat) : Option (List (Nat × List Nat) × List Nat) := (bif Nat.blt i 8 then (bif Nat.beq i 6 then some ([(0, []), (1, []), (3, []), (2, [3]), (4, []), (5, [])], [3]) else none) else (bif Nat.beq i 8 then some ([(0, []), (1, []), (2, []), (4, []), (3, [4]), (5, []), (6, []), (7, [])], [4]) else none))
def pl_99 (i : Nat) : Option (List (Nat × List Nat) × List Nat) := (bif Nat.blt i 8 then (bif Nat.beq i 2 then some ([(0, []), (1, []), (2, []), (3, []), (4, []), (5, []), (6, []), (7, []), (8, []), (9, []), (10, []), (11, []), (12, []), (13, []), (14, []), (15, [])], []) else none) else (bif Nat.beq i 8 then some ([(0, []), (1, []), (2, []), (4, []), (3, [0, 4]), (5, []), (6, []), (7, []), (8, []), (9, []), (10, []), (11, [0]), (12, []), (13, []), (14, []), (15, []), (16, [])], [0, 4]) else none))
def pl_104 (i : Nat) : Option (List (Nat × List Nat) × List Nat) := (bif Nat.beq i 8 then some ([(0, []), (1, []), (2, []), (3, []), (4, []), (5, []), (6, [0]), (7, [])], [0]) else none)
def pl_106 (i : Nat) : Option (List (Nat × List Nat) × List Nat) := (bif Nat.beq i 6 then some ([(0, []), (1, []), (2, []), (3, []), (4, []), (5, []), (6, []), (7, [])], []) else none)
def pls (f i : Nat) : Option (List (Nat × List Nat) × List Nat) := bif Nat.beq f 3 then pl_3 i else bif Nat.beq f 4 then pl_4 i else bif Nat.beq f 5 then pl_5 i else bif Nat.beq f 8 then pl_8 i else bif Nat.beq f 11 then pl_11 i else bif Nat.beq f 13 then pl_13 i else bif Nat.beq f 14 then pl_14 i else bif Nat.beq f 15 then pl_15 i else bif Nat.beq f 24 then pl_24 i else bif Nat.beq f 26 then pl_26 i else bif Nat.beq f 28 then pl_28 i else bif Nat.beq f 29 then pl_29 i else bif Nat.beq f 30 then pl_30 i else bif Nat.beq f 33 then pl_33 i else bif Nat.beq f 35 then pl_35 i else bif Nat.beq f 36 then pl_36 i else bif Nat.beq f 37 then pl_37 i else bif Nat.beq f 40 then pl_40 i else bif Nat.beq f 43 then pl_43 i else bif Nat.beq f 44 then pl_44 i else bif Nat.beq f 47 then pl_47 i else bif Nat.beq f 48 then pl_48 i else bif Nat.beq f 69 then pl_69 i else bif Nat.beq f 70 then pl_70 i else bif Nat.beq f 74 then pl_74 i else bif Nat.beq f 80 then pl_80 i else bif Nat.beq f 86 then pl_86 i else bif Nat.beq f 87 then pl_87 i else bif Nat.beq f 91 then pl_91 i else bif Nat.beq f 93 then pl_93 i else bif Nat.beq f 94 then pl_94 i else bif Nat.beq f 99 then pl_99 i else bif Nat.beq f 104 then pl_104 i else bif Nat.beq f 106 then pl_106 i else none
theorem plok_3 : ((Tryd.prog.funcs[3]?).bind (fun fn => fn.body)).all (plOk pl_3) = true := by kernel_rfl
theorem plok_4 : ((Tryd.prog.funcs[4]?).bind (fun fn => fn.body)).all (plOk pl_4) = true := by kernel_rfl
theorem plok_5 : ((Tryd.prog.funcs[5]?).bind (fun fn => fn.body)).all (plOk pl_5) = true := by kernel_rfl
theorem plok_8 : ((Tryd.prog.funcs[8]?).bind (fun fn => fn.body)).all (plOk pl_8) = true := by kernel_rfl
theorem plok_11 : ((Tryd.prog.funcs[11]?).bind (fun fn => fn.body)).all (plOk pl_11) = true := by kernel_rfl
theorem plok_13 : ((Tryd.prog.funcs[13]?).bind (fun fn => fn.body)).all (plOk pl_13) = true := by kernel_rfl
theorem plok_14 : ((Tryd.prog.funcs[14]?).bind (fun fn => fn.body)).all (plOk pl_14) = true := by kernel_rfl
theorem plok_15 : ((Tryd.prog.funcs[15]?).bind (fun fn => fn.body)).all (plOk pl_15) = true := by kernel_rfl
theorem plok_24 : ((Tryd.prog.funcs[24]?).bind (fun fn => fn.body)).all (plOk pl_24) = true := by kernel_rfl
theorem plok_26 : ((Tryd.prog.funcs[26]?).bind (fun fn => fn.body)).all (plOk pl_26) = true := by kernel_rfl
theorem plok_28 : ((Tryd.prog.funcs[28]?).bind (fun fn => fn.body)).all (plOk pl_28) = true := by kernel_rfl
theorem plok_29 : ((Tryd.prog.funcs[29]?).bind (fun fn => fn.body)).all (plOk pl_29) = true := by kernel_rfl
theorem plok_30 : ((Tryd.prog.funcs[30]?).bind (fun fn => fn.body)).all (plOk pl_30) = true := by kernel_rfl
theorem plok_33 : ((Tryd.prog.funcs[33]?).bind (fun fn => fn.body)).all (plOk pl_33) = true := by kernel_rfl
theorem plok_35 : ((Tryd.prog.funcs[35]?).bind (fun fn => fn.body)).all (plOk pl_35) = true := by kernel_rfl
theorem plok_36 : ((Tryd.prog.funcs[36]?).bind (fun fn => fn.body)).all (plOk pl_36) = true := by kernel_rfl
theorem plok_37 : ((Tryd.prog.funcs[37]?).bind (fun fn => fn.body)).all (plOk pl_37) = true := by kernel_rfl
theorem plok_40 : ((Tryd.prog.funcs[40]?).bind (fun fn => fn.body)).all (plOk pl_40) = true := by kernel_rfl
theorem plok_43 : ((Tryd.prog.funcs[43]?).bind (fun fn => fn.body)).all (plOk pl_43) = true := by kernel_rfl
theorem plok_44 : ((Tryd.prog.funcs[44]?).bind (fun fn => fn.body)).all (plOk pl_44) = true := by kernel_rfl
theorem plok_47 : ((Tryd.prog.funcs[47]?).bind (fun fn => fn.body)).all (plOk pl_47) = true := by kernel_rfl
theorem plok_48 : ((Tryd.prog.funcs[48]?).bind (fun fn => fn.body)).all (plOk pl_48) = true := by kernel_rfl
theorem plok_69 : ((Tryd.prog.funcs[69]?).bind (fun fn => fn.body)).all (plOk pl_69) = true := by kernel_rfl
theorem plok_70 : ((Tryd.prog.funcs[70]?).bind (fun fn => fn.body)).all (plOk pl_70) = true := by kernel_rfl
theorem plok_74 : ((Tryd.prog.funcs[74]?).bind (fun fn => fn.body)).all (plOk pl_74) = true := by kernel_rfl
theorem plok_80 : ((Tryd.prog.funcs[80]?).bind (fun fn => fn.body)).all (plOk pl_80) = true := by kernel_rfl
theorem plok_86 : ((Tryd.prog.funcs[86]?).bind (fun fn => fn.body)).all (plOk pl_86) = true := by kernel_rfl
theorem plok_87 : ((Tryd.prog.funcs[87]?).bind (fun fn => fn.body)).all (plOk pl_87) = true := by kernel_rfl
theorem plok_91 : ((Tryd.prog.funcs[91]?).bind (fun fn => fn.body)).all (plOk pl_91) = true := by kernel_rfl
theorem plok_93 : ((Tryd.prog.funcs[93]?).bind (fun fn => fn.body)).all (plOk pl_93) = true := by kernel_rfl
theorem plok_94 : ((Tryd.prog.funcs[94]?).bind (fun fn => fn.body)).all (plOk pl_94) = true := by kernel_rfl
theorem plok_99 : ((Tryd.prog.funcs[99]?).bind (fun fn => fn.body)).all (plOk pl_99) = true := by kernel_rfl
theorem plok_104 : ((Tryd.prog.funcs[104]?).bind (fun fn => fn.body)).all (plOk pl_104) = true := by kernel_rfl
theorem plok_106 : ((Tryd.prog.funcs[106]?).bind (fun fn => fn.body)).all (plOk pl_106) = true := by kernel_rfl

/-- The numbers that cells hold. -/
def decL : List MV → Option (List Int)
  | [] => some []
  | .lit (.int .u64 n) :: l => match decL l with
    | some D => some (n :: D)
    | none => none
  | _ => none
theorem decL_eq : ∀ {l : List MV} {D : List Int}, decL l = some D → l = D.map u64 := by
  intro l
  induction l with
  | nil => intro D h; cases h; rfl
  | cons x l ih =>
    intro D h
    unfold decL at h
    split at h
    · rename_i heq; cases heq
    · rename_i n l' heq
      cases heq
      split at h
      · rename_i D' hD; cases h; rw [ih hD]; rfl
      · cases h
    · cases h
def k_107 (args : List MV) (H : MH) : Option (MV × Option MH) := match args with
  | [.lit (.int .u64 a), .lit (.int .u64 b), .lit (.int .u64 c)] => bif decide (0 ≤ a) && decide (0 ≤ b) && decide (0 ≤ c) && decide (c ≤ 1) then fVk (.tup [u64 (add64M a b c).1, u64 (add64M a b c).2]) (fun v => some (v, none)) else none
  | _ => none
theorem k_107_spec {args : List MV} {H : MH} {r : MV × Option MH} (h : k_107 args H = some r) : Spec Tryd.prog 107 args H fun v' H' => v' = r.1 ∧ H' = r.2.getD H := by
  unfold k_107 at h
  split at h
  · rename_i a b c
    simp only [fVk_eq] at h
    rw [Bool.cond_eq_ite] at h
    split at h
    · rename_i hc
      try simp only [Bool.and_eq_true, decide_eq_true_eq] at hc
      cases h
      exact add64_spec hc.1.1.1 hc.1.1.2 ⟨hc.1.2, hc.2⟩ H
    · cases h
  · cases h
def k_108 (args : List MV) (H : MH) : Option (MV × Option MH) := match args with
  | [.lit (.int .u64 a), .lit (.int .u64 b), .lit (.int .u64 c)] => bif decide (0 ≤ a) && decide (0 ≤ b) && decide (b < 18446744073709551616) && decide (0 ≤ c) && decide (c ≤ 1) then fVk (.tup [u64 (sub64M a b c).1, u64 (sub64M a b c).2]) (fun v => some (v, none)) else none
  | _ => none
theorem k_108_spec {args : List MV} {H : MH} {r : MV × Option MH} (h : k_108 args H = some r) : Spec Tryd.prog 108 args H fun v' H' => v' = r.1 ∧ H' = r.2.getD H := by
  unfold k_108 at h
  split at h
  · rename_i a b c
    simp only [fVk_eq] at h
    rw [Bool.cond_eq_ite] at h
    split at h
    · rename_i hc
      try simp only [Bool.and_eq_true, decide_eq_true_eq] at hc
      cases h
      exact sub64_spec hc.1.1.1.1 ⟨hc.1.1.1.2, hc.1.1.2⟩ ⟨hc.1.2, hc.2⟩ H
    · cases h
  · cases h
def k_88 (args : List MV) (H : MH) : Option (MV × Option MH) := match args with
  | [.lit (.int .u64 a), .lit (.int .u64 b)] => bif true then fVk (.tup [u64 (mulM a b).1, u8 (mulM a b).2]) (fun v => some (v, none)) else none
  | _ => none
theorem k_88_spec {args : List MV} {H : MH} {r : MV × Option MH} (h : k_88 args H = some r) : Spec Tryd.prog 88 args H fun v' H' => v' = r.1 ∧ H' = r.2.getD H := by
  unfold k_88 at h
  split at h
  · rename_i a b
    simp only [fVk_eq] at h
    rw [Bool.cond_eq_ite] at h
    split at h
    · rename_i hc
      try simp only [Bool.and_eq_true, decide_eq_true_eq] at hc
      cases h
      exact mul_spec a b H
    · cases h
  · cases h
def k_87 (args : List MV) (H : MH) : Option (MV × Option MH) := match args with
  | [.lit (.int .u64 a), .lit (.int .u64 b)] => bif decide (0 ≤ a) && decide (a < 18446744073709551616) && decide (0 ≤ b) && decide (b < 18446744073709551616) then fVk (.tup [u64 (addM a b).1, u8 (addM a b).2]) (fun v => some (v, none)) else none
  | _ => none
theorem k_87_spec {args : List MV} {H : MH} {r : MV × Option MH} (h : k_87 args H = some r) : Spec Tryd.prog 87 args H fun v' H' => v' = r.1 ∧ H' = r.2.getD H := by
  unfold k_87 at h
  split at h
  · rename_i a b
    simp only [fVk_eq] at h
    rw [Bool.cond_eq_ite] at h
    split at h
    · rename_i hc
      try simp only [Bool.and_eq_true, decide_eq_true_eq] at hc
      cases h
      exact add_spec ⟨hc.1.1.1, hc.1.1.2⟩ ⟨hc.1.2, hc.2⟩ H
    · cases h
  · cases h
def k_73 (args : List MV) (H : MH) : Option (MV × Option MH) := match args with
  | [.lit (.int .u64 a)] => bif true then fVk (i64 (kindM a)) (fun v => some (v, none)) else none
  | _ => none
theorem k_73_spec {args : List MV} {H : MH} {r : MV × Option MH} (h : k_73 args H = some r) : Spec Tryd.prog 73 args H fun v' H' => v' = r.1 ∧ H' = r.2.getD H := by
  unfold k_73 at h
  split at h
  · rename_i a
    simp only [fVk_eq] at h
    rw [Bool.cond_eq_ite] at h
    split at h
    · rename_i hc
      try simp only [Bool.and_eq_true, decide_eq_true_eq] at hc
      cases h
      exact kind_spec a H
    · cases h
  · cases h
def k_18 (args : List MV) (H : MH) : Option (MV × Option MH) := match args with
  | [.lit (.int .u64 a)] => bif true then fVk (u64 (absM a)) (fun v => some (v, none)) else none
  | _ => none
theorem k_18_spec {args : List MV} {H : MH} {r : MV × Option MH} (h : k_18 args H = some r) : Spec Tryd.prog 18 args H fun v' H' => v' = r.1 ∧ H' = r.2.getD H := by
  unfold k_18 at h
  split at h
  · rename_i a
    simp only [fVk_eq] at h
    rw [Bool.cond_eq_ite] at h
    split at h
    · rename_i hc
      try simp only [Bool.and_eq_true, decide_eq_true_eq] at hc
      cases h
      exact abs_spec a H
    · cases h
  · cases h
def k_53 (args : List MV) (H : MH) : Option (MV × Option MH) := match args with
  | [.lit (.int .u64 a)] => bif true then fVk (bl (negM a)) (fun v => some (v, none)) else none
  | _ => none
theorem k_53_spec {args : List MV} {H : MH} {r : MV × Option MH} (h : k_53 args H = some r) : Spec Tryd.prog 53 args H fun v' H' => v' = r.1 ∧ H' = r.2.getD H := by
  unfold k_53 at h
  split at h
  · rename_i a
    simp only [fVk_eq] at h
    rw [Bool.cond_eq_ite] at h
    split at h
    · rename_i hc
      try simp only [Bool.and_eq_true, decide_eq_true_eq] at hc
      cases h
      exact neg_spec a H
    · cases h
  · cases h
def k_54 (args : List MV) (H : MH) : Option (MV × Option MH) := match args with
  | [.lit (.int .u64 a)] => bif true then fVk (u64 (flipM a)) (fun v => some (v, none)) else none
  | _ => none
theorem k_54_spec {args : List MV} {H : MH} {r : MV × Option MH} (h : k_54 args H = some r) : Spec Tryd.prog 54 args H fun v' H' => v' = r.1 ∧ H' = r.2.getD H := by
  unfold k_54 at h
  split at h
  · rename_i a
    simp only [fVk_eq] at h
    rw [Bool.cond_eq_ite] at h
    split at h
    · rename_i hc
      try simp only [Bool.and_eq_true, decide_eq_true_eq] at hc
      cases h
      exact flip_spec a H
    · cases h
  · cases h
def k_16 (args : List MV) (H : MH) : Option (MV × Option MH) := match args with
  | [.lit (.int .u64 a)] => bif true then fVk (bl (finiteM a)) (fun v => some (v, none)) else none
  | _ => none
theorem k_16_spec {args : List MV} {H : MH} {r : MV × Option MH} (h : k_16 args H = some r) : Spec Tryd.prog 16 args H fun v' H' => v' = r.1 ∧ H' = r.2.getD H := by
  unfold k_16 at h
  split at h
  · rename_i a
    simp only [fVk_eq] at h
    rw [Bool.cond_eq_ite] at h
    split at h
    · rename_i hc
      try simp only [Bool.and_eq_true, decide_eq_true_eq] at hc
      cases h
      exact finite_spec a H
    · cases h
  · cases h
def k_82 (args : List MV) (H : MH) : Option (MV × Option MH) := match args with
  | [.lit (.int .u64 a)] => bif true then fVk (bl (signalsM a)) (fun v => some (v, none)) else none
  | _ => none
theorem k_82_spec {args : List MV} {H : MH} {r : MV × Option MH} (h : k_82 args H = some r) : Spec Tryd.prog 82 args H fun v' H' => v' = r.1 ∧ H' = r.2.getD H := by
  unfold k_82 at h
  split at h
  · rename_i a
    simp only [fVk_eq] at h
    rw [Bool.cond_eq_ite] at h
    split at h
    · rename_i hc
      try simp only [Bool.and_eq_true, decide_eq_true_eq] at hc
      cases h
      exact signals_spec a H
    · cases h
  · cases h
def k_61 (args : List MV) (H : MH) : Option (MV × Option MH) := match args with
  | [.lit (.int .u64 a)] => bif true then fVk (.tup [u64 (partsM a).1, i64 (partsM a).2]) (fun v => some (v, none)) else none
  | _ => none
theorem k_61_spec {args : List MV} {H : MH} {r : MV × Option MH} (h : k_61 args H = some r) : Spec Tryd.prog 61 args H fun v' H' => v' = r.1 ∧ H' = r.2.getD H := by
  unfold k_61 at h
  split at h
  · rename_i a
    simp only [fVk_eq] at h
    rw [Bool.cond_eq_ite] at h
    split at h
    · rename_i hc
      try simp only [Bool.and_eq_true, decide_eq_true_eq] at hc
      cases h
      exact parts_spec a H
    · cases h
  · cases h
def k_103 (args : List MV) (H : MH) : Option (MV × Option MH) := match args with
  | [.lit (.int .u64 a), .lit (.int .u64 b)] => bif true then fVk (wd (mul64M a b)) (fun v => some (v, none)) else none
  | _ => none
theorem k_103_spec {args : List MV} {H : MH} {r : MV × Option MH} (h : k_103 args H = some r) : Spec Tryd.prog 103 args H fun v' H' => v' = r.1 ∧ H' = r.2.getD H := by
  unfold k_103 at h
  split at h
  · rename_i a b
    simp only [fVk_eq] at h
    rw [Bool.cond_eq_ite] at h
    split at h
    · rename_i hc
      try simp only [Bool.and_eq_true, decide_eq_true_eq] at hc
      cases h
      exact wmul_spec a b H
    · cases h
  · cases h
def k_105 (args : List MV) (H : MH) : Option (MV × Option MH) := match args with
  | [.agg [.lit (.int .u64 a1), .lit (.int .u64 a2)], .agg [.lit (.int .u64 b1), .lit (.int .u64 b2)]] => bif true then fVk (i64 (wcmpM (a1, a2) (b1, b2))) (fun v => some (v, none)) else none
  | _ => none
theorem k_105_spec {args : List MV} {H : MH} {r : MV × Option MH} (h : k_105 args H = some r) : Spec Tryd.prog 105 args H fun v' H' => v' = r.1 ∧ H' = r.2.getD H := by
  unfold k_105 at h
  split at h
  · rename_i a1 a2 b1 b2
    simp only [fVk_eq] at h
    rw [Bool.cond_eq_ite] at h
    split at h
    · rename_i hc
      try simp only [Bool.and_eq_true, decide_eq_true_eq] at hc
      cases h
      exact wcmp_spec (a1, a2) (b1, b2) H
    · cases h
  · cases h
def k_93 (args : List MV) (H : MH) : Option (MV × Option MH) := match args with
  | [.agg [.lit (.int .u64 a1), .lit (.int .u64 a2)], .lit (.int .i64 b)] => bif true then fVk (wd (wleftM (a1, a2) b)) (fun v => some (v, none)) else none
  | _ => none
theorem k_93_spec {args : List MV} {H : MH} {r : MV × Option MH} (h : k_93 args H = some r) : Spec Tryd.prog 93 args H fun v' H' => v' = r.1 ∧ H' = r.2.getD H := by
  unfold k_93 at h
  split at h
  · rename_i a1 a2 b
    simp only [fVk_eq] at h
    rw [Bool.cond_eq_ite] at h
    split at h
    · rename_i hc
      try simp only [Bool.and_eq_true, decide_eq_true_eq] at hc
      cases h
      exact wleft_spec (a1, a2) b H
    · cases h
  · cases h
def k_83 (args : List MV) (H : MH) : Option (MV × Option MH) := match args with
  | [.lit (.bool a), .agg [.lit (.int .u64 b1), .lit (.int .u64 b2)], .lit (.int .i64 c), .lit (.bool d)] => bif decide (0 ≤ b1) && decide (b1 < 18446744073709551616) && decide (0 ≤ b2) && decide (b2 < 18446744073709551616) then fVk (.tup [u64 (roundM a (b1, b2) c d).1, u8 (roundM a (b1, b2) c d).2]) (fun v => some (v, none)) else none
  | _ => none
theorem k_83_spec {args : List MV} {H : MH} {r : MV × Option MH} (h : k_83 args H = some r) : Spec Tryd.prog 83 args H fun v' H' => v' = r.1 ∧ H' = r.2.getD H := by
  unfold k_83 at h
  split at h
  · rename_i a b1 b2 c d
    simp only [fVk_eq] at h
    rw [Bool.cond_eq_ite] at h
    split at h
    · rename_i hc
      try simp only [Bool.and_eq_true, decide_eq_true_eq] at hc
      cases h
      exact round_spec a ⟨⟨hc.1.1.1, hc.1.1.2⟩, ⟨hc.1.2, hc.2⟩⟩ c d H
    · cases h
  · cases h
def k_92 (args : List MV) (H : MH) : Option (MV × Option MH) := match args with
  | [.lit (.int .u64 a)] => bif decide (0 ≤ a) && decide (a < 18446744073709551616) then fVk (i64 (lenM a)) (fun v => some (v, none)) else none
  | _ => none
theorem k_92_spec {args : List MV} {H : MH} {r : MV × Option MH} (h : k_92 args H = some r) : Spec Tryd.prog 92 args H fun v' H' => v' = r.1 ∧ H' = r.2.getD H := by
  unfold k_92 at h
  split at h
  · rename_i a
    simp only [fVk_eq] at h
    rw [Bool.cond_eq_ite] at h
    split at h
    · rename_i hc
      try simp only [Bool.and_eq_true, decide_eq_true_eq] at hc
      cases h
      exact len_spec hc H
    · cases h
  · cases h
def k_27 (args : List MV) (H : MH) : Option (MV × Option MH) := match args with
  | [.agg [.lit (.int .i64 r), .lit (.int .i64 c), .lit (.int .i64 s), .slice p 0 n z 1], .lit (.int .i64 i), .lit (.int .i64 k)] => match hget H p with
    | some ob => match decL ob.cells with
      | some D => bif decide (s = c) && decide (0 ≤ r) && decide (r ≤ 4096) && decide (0 ≤ c) && decide (c ≤ 4096) && decide (D.length = (r * c).toNat) && decide (D.length = n) then fI (atM r c c D i k) (fun x => some (u64 x, none)) else none
      | none => none
    | none => none
  | _ => none
theorem k_27_spec {args : List MV} {H : MH} {u : MV × Option MH} (h : k_27 args H = some u) : Spec Tryd.prog 27 args H fun v' H' => v' = u.1 ∧ H' = u.2.getD H := by
  unfold k_27 at h
  split at h
  · rename_i r c s p n z i k
    split at h
    · rename_i ob hob
      split at h
      · rename_i D hD
        simp only [fD_eq, fI_eq] at h
        rw [Bool.cond_eq_ite] at h
        split at h
        · rename_i hc
          simp only [Bool.and_eq_true, decide_eq_true_eq] at hc
          have hs := hc.1.1.1.1.1.1
          subst hs
          obtain ⟨cells, rw⟩ := ob
          have hcell := decL_eq hD
          simp only at hcell
          subst hcell
          have hp := hob
          cases h
          exact at_ok ⟨hc.1.1.1.1.1.2, hc.1.1.1.1.2, hc.1.1.1.2, hc.1.1.2, hc.1.2⟩ i k hp hc.2
        · cases h
      · cases h
    · cases h
  · cases h
def k_67 (args : List MV) (H : MH) : Option (MV × Option MH) := match args with
  | [.agg [.lit (.int .i64 r), .lit (.int .i64 c), .lit (.int .i64 s), .slice p 0 n z 1], .lit (.int .i64 i), .lit (.int .i64 k), .lit (.int .u64 b)] => match hget H p with
    | some ob => match decL ob.cells with
      | some D => bif decide (s = c) && decide (0 ≤ r) && decide (r ≤ 4096) && decide (0 ≤ c) && decide (c ≤ 4096) && decide (D.length = (r * c).toNat) && decide (D.length = n) then bif ob.rw then fD (setM r c c D i k b) (fun D => some (.tup [], some (H.set p (some ⟨D.map u64, true⟩)))) else none else none
      | none => none
    | none => none
  | _ => none
theorem k_67_spec {args : List MV} {H : MH} {u : MV × Option MH} (h : k_67 args H = some u) : Spec Tryd.prog 67 args H fun v' H' => v' = u.1 ∧ H' = u.2.getD H := by
  unfold k_67 at h
  split at h
  · rename_i r c s p n z i k b
    split at h
    · rename_i ob hob
      split at h
      · rename_i D hD
        simp only [fD_eq, fI_eq] at h
        rw [Bool.cond_eq_ite] at h
        split at h
        · rename_i hc
          simp only [Bool.and_eq_true, decide_eq_true_eq] at hc
          have hs := hc.1.1.1.1.1.1
          subst hs
          obtain ⟨cells, rw⟩ := ob
          have hcell := decL_eq hD
          simp only at hcell
          subst hcell
          cases rw with
          | false => cases h
          | true =>
            have hp := hob
            cases h
            exact set_ok ⟨hc.1.1.1.1.1.2, hc.1.1.1.1.2, hc.1.1.1.2, hc.1.1.2, hc.1.2⟩ i k b hp hc.2
        · cases h
      · cases h
    · cases h
  · cases h
def kn (f : FuncId) (args : List MV) (H : MH) : Option (MV × Option MH) := bif Nat.beq f 107 then k_107 args H else bif Nat.beq f 108 then k_108 args H else bif Nat.beq f 88 then k_88 args H else bif Nat.beq f 87 then k_87 args H else bif Nat.beq f 73 then k_73 args H else bif Nat.beq f 18 then k_18 args H else bif Nat.beq f 53 then k_53 args H else bif Nat.beq f 54 then k_54 args H else bif Nat.beq f 16 then k_16 args H else bif Nat.beq f 82 then k_82 args H else bif Nat.beq f 61 then k_61 args H else bif Nat.beq f 103 then k_103 args H else bif Nat.beq f 105 then k_105 args H else bif Nat.beq f 93 then k_93 args H else bif Nat.beq f 83 then k_83 args H else bif Nat.beq f 92 then k_92 args H else bif Nat.beq f 27 then k_27 args H else bif Nat.beq f 67 then k_67 args H else none
theorem kn_spec : ∀ f args H r, kn f args H = some r → Spec Tryd.prog f args H fun v' H' => v' = r.1 ∧ H' = r.2.getD H := by
  intro f args H r h
  unfold kn at h
  rw [beq_dec', Bool.cond_decide] at h
  split at h
  · rename_i hf
    subst hf
    exact k_107_spec h
  rw [beq_dec', Bool.cond_decide] at h
  split at h
  · rename_i hf
    subst hf
    exact k_108_spec h
  rw [beq_dec', Bool.cond_decide] at h
  split at h
  · rename_i hf
    subst hf
    exact k_88_spec h
  rw [beq_dec', Bool.cond_decide] at h
  split at h
  · rename_i hf
    subst hf
    exact k_87_spec h
  rw [beq_dec', Bool.cond_decide] at h
  split at h
  · rename_i hf
    subst hf
    exact k_73_spec h
  rw [beq_dec', Bool.cond_decide] at h
  split at h
  · rename_i hf
    subst hf
    exact k_18_spec h
  rw [beq_dec', Bool.cond_decide] at h
  split at h
  · rename_i hf
    subst hf
    exact k_53_spec h
  rw [beq_dec', Bool.cond_decide] at h
  split at h
  · rename_i hf
    subst hf
    exact k_54_spec h
  rw [beq_dec', Bool.cond_decide] at h
  split at h
  · rename_i hf
    subst hf
    exact k_16_spec h
  rw [beq_dec', Bool.cond_decide] at h
  split at h
  · rename_i hf
    subst hf
    exact k_82_spec h
  rw [beq_dec', Bool.cond_decide] at h
  split at h
  · rename_i hf
    subst hf
    exact k_61_spec h
  rw [beq_dec', Bool.cond_decide] at h
  split at h
  · rename_i hf
    subst hf
    exact k_103_spec h
  rw [beq_dec', Bool.cond_decide] at h
  split at h
  · rename_i hf
    subst hf
    exact k_105_spec h
  rw [beq_dec', Bool.cond_decide] at h
  split at h
  · rename_i hf
    subst hf
    exact k_93_spec h
  rw [beq_dec', Bool.cond_decide] at h
  split at h
  · rename_i hf
    subst hf
    exact k_83_spec h
  rw [beq_dec', Bool.cond_decide] at h
  split at h
  · rename_i hf
    subst hf
    exact k_92_spec h
  rw [beq_dec', Bool.cond_decide] at h
  split at h
  · rename_i hf
    subst hf
    exact k_27_spec h
  rw [beq_dec', Bool.cond_decide] at h
  split at h
  · rename_i hf
    subst hf
    exact k_67_spec h
  cases h
def roF (f : FuncId) : Bool := (match ((bif Nat.blt f 55 then (bif Nat.blt f 35 then (bif Nat.blt f 25 then (bif Nat.blt f 21 then (bif Nat.blt f 20 then (bif Nat.beq f 11 then some () else none) else (bif Nat.beq f 20 then some () else none)) else (bif Nat.blt f 23 then (bif Nat.beq f 21 then some () else none) else (bif Nat.blt f 24 then (bif Nat.beq f 23 then some () else none) else (bif Nat.beq f 24 then some () else none)))) else (bif Nat.blt f 28 then (bif Nat.blt f 26 then (bif Nat.beq f 25 then some () else none) else (bif Nat.beq f 26 then some () else none)) else (bif Nat.blt f 30 then (bif Nat.beq f 28 then some () else none) else (bif Nat.blt f 34 then (bif Nat.beq f 30 then some () else none) else (bif Nat.beq f 34 then some () else none))))) else (bif Nat.blt f 45 then (bif Nat.blt f 40 then (bif Nat.blt f 37 then (bif Nat.beq f 35 then some () else none) else (bif Nat.beq f 37 then some () else none)) else (bif Nat.blt f 43 then (bif Nat.beq f 40 then some () else none) else (bif Nat.blt f 44 then (bif Nat.beq f 43 then some () else none) else (bif Nat.beq f 44 then some () else none)))) else (bif Nat.blt f 50 then (bif Nat.blt f 49 then (bif Nat.beq f 45 then some () else none) else (bif Nat.beq f 49 then some () else none)) else (bif Nat.blt f 51 then (bif Nat.beq f 50 then some () else none) else (bif Nat.blt f 52 then (bif Nat.beq f 51 then some () else none) else (bif Nat.beq f 52 then some () else none)))))) else (bif Nat.blt f 74 then (bif Nat.blt f 64 then (bif Nat.blt f 58 then (bif Nat.blt f 56 then (bif Nat.beq f 55 then some () else none) else (bif Nat.beq f 56 then some () else none)) else (bif Nat.blt f 62 then (bif Nat.beq f 58 then some () else none) else (bif Nat.blt f 63 then (bif Nat.beq f 62 then some () else none) else (bif Nat.beq f 63 then some () else none)))) else (bif Nat.blt f 66 then (bif Nat.blt f 65 then (bif Nat.beq f 64 then some () else none) else (bif Nat.beq f 65 then some () else none)) else (bif Nat.blt f 67 then (bif Nat.beq f 66 then some () else none) else (bif Nat.blt f 69 then (bif Nat.beq f 67 then some () else none) else (bif Nat.beq f 69 then some () else none))))) else (bif Nat.blt f 89 then (bif Nat.blt f 78 then (bif Nat.blt f 75 then (bif Nat.beq f 74 then some () else none) else (bif Nat.beq f 75 then some () else none)) else (bif Nat.blt f 79 then (bif Nat.beq f 78 then some () else none) else (bif Nat.blt f 86 then (bif Nat.beq f 79 then some () else none) else (bif Nat.beq f 86 then some () else none)))) else (bif Nat.blt f 91 then (bif Nat.blt f 90 then (bif Nat.beq f 89 then some () else none) else (bif Nat.beq f 90 then some () else none)) else (bif Nat.blt f 104 then (bif Nat.beq f 91 then some () else none) else (bif Nat.blt f 126 then (bif Nat.beq f 104 then some () else none) else (bif Nat.beq f 126 then some () else none))))))) : Option Unit) with | some _ => false | none => true)
def iso (f : FuncId) : Bool := !(Nat.beq f 58) && !(Nat.beq f 20) && !(Nat.beq f 25) && !(Nat.beq f 62) && !(Nat.beq f 90) && !(Nat.beq f 12) && !(Nat.beq f 76) && !(Nat.beq f 64) && !(Nat.beq f 45) && !(Nat.beq f 50) && !(Nat.beq f 43)
theorem fok : FOk Tryd.prog pls := by
  have h : Tryd.prog.funcs.all (fun fn => !(fn.name == "runtime.NumGoroutine") && (match fn.body with | some c => codeOk fn.ntmps c | none => true)) = true := by decide +kernel
  intro f fn c hf hb
  have := Array.all_eq_true_iff_forall_mem.1 h fn (Array.mem_of_getElem? hf)
  simp only [Bool.and_eq_true, hb] at this
  refine ⟨by simpa using this.1, this.2, ?_⟩
  by_cases h3 : f = 3
  · subst h3
    have h := plok_3
    rw [hf, Option.bind_some, hb, Option.all_some] at h
    have e : pls 3 = pl_3 := by funext i; rfl
    rw [e]; exact h
  by_cases h4 : f = 4
  · subst h4
    have h := plok_4
    rw [hf, Option.bind_some, hb, Option.all_some] at h
    have e : pls 4 = pl_4 := by funext i; rfl
    rw [e]; exact h
  by_cases h5 : f = 5
  · subst h5
    have h := plok_5
    rw [hf, Option.bind_some, hb, Option.all_some] at h
    have e : pls 5 = pl_5 := by funext i; rfl
    rw [e]; exact h
  by_cases h8 : f = 8
  · subst h8
    have h := plok_8
    rw [hf, Option.bind_some, hb, Option.all_some] at h
    have e : pls 8 = pl_8 := by funext i; rfl
    rw [e]; exact h
  by_cases h11 : f = 11
  · subst h11
    have h := plok_11
    rw [hf, Option.bind_some, hb, Option.all_some] at h
    have e : pls 11 = pl_11 := by funext i; rfl
    rw [e]; exact h
  by_cases h13 : f = 13
  · subst h13
    have h := plok_13
    rw [hf, Option.bind_some, hb, Option.all_some] at h
    have e : pls 13 = pl_13 := by funext i; rfl
    rw [e]; exact h
  by_cases h14 : f = 14
  · subst h14
    have h := plok_14
    rw [hf, Option.bind_some, hb, Option.all_some] at h
    have e : pls 14 = pl_14 := by funext i; rfl
    rw [e]; exact h
  by_cases h15 : f = 15
  · subst h15
    have h := plok_15
    rw [hf, Option.bind_some, hb, Option.all_some] at h
    have e : pls 15 = pl_15 := by funext i; rfl
    rw [e]; exact h
  by_cases h24 : f = 24
  · subst h24
    have h := plok_24
    rw [hf, Option.bind_some, hb, Option.all_some] at h
    have e : pls 24 = pl_24 := by funext i; rfl
    rw [e]; exact h
  by_cases h26 : f = 26
  · subst h26
    have h := plok_26
    rw [hf, Option.bind_some, hb, Option.all_some] at h
    have e : pls 26 = pl_26 := by funext i; rfl
    rw [e]; exact h
  by_cases h28 : f = 28
  · subst h28
    have h := plok_28
    rw [hf, Option.bind_some, hb, Option.all_some] at h
    have e : pls 28 = pl_28 := by funext i; rfl
    rw [e]; exact h
  by_cases h29 : f = 29
  · subst h29
    have h := plok_29
    rw [hf, Option.bind_some, hb, Option.all_some] at h
    have e : pls 29 = pl_29 := by funext i; rfl
    rw [e]; exact h
  by_cases h30 : f = 30
  · subst h30
    have h := plok_30
    rw [hf, Option.bind_some, hb, Option.all_some] at h
    have e : pls 30 = pl_30 := by funext i; rfl
    rw [e]; exact h
  by_cases h33 : f = 33
  · subst h33
    have h := plok_33
    rw [hf, Option.bind_some, hb, Option.all_some] at h
    have e : pls 33 = pl_33 := by funext i; rfl
    rw [e]; exact h
  by_cases h35 : f = 35
  · subst h35
    have h := plok_35
    rw [hf, Option.bind_some, hb, Option.all_some] at h
    have e : pls 35 = pl_35 := by funext i; rfl
    rw [e]; exact h
  by_cases h36 : f = 36
  · subst h36
    have h := plok_36
    rw [hf, Option.bind_some, hb, Option.all_some] at h
    have e : pls 36 = pl_36 := by funext i; rfl
    rw [e]; exact h
  by_cases h37 : f = 37
  · subst h37
    have h := plok_37
    rw [hf, Option.bind_some, hb, Option.all_some] at h
    have e : pls 37 = pl_37 := by funext i; rfl
    rw [e]; exact h
  by_cases h40 : f = 40
  · subst h40
    have h := plok_40
    rw [hf, Option.bind_some, hb, Option.all_some] at h
    have e : pls 40 = pl_40 := by funext i; rfl
    rw [e]; exact h
  by_cases h43 : f = 43
  · subst h43
    have h := plok_43
    rw [hf, Option.bind_some, hb, Option.all_some] at h
    have e : pls 43 = pl_43 := by funext i; rfl
    rw [e]; exact h
  by_cases h44 : f = 44
  · subst h44
    have h := plok_44
    rw [hf, Option.bind_some, hb, Option.all_some] at h
    have e : pls 44 = pl_44 := by funext i; rfl
    rw [e]; exact h
  by_cases h47 : f = 47
  · subst h47
    have h := plok_47
    rw [hf, Option.bind_some, hb, Option.all_some] at h
    have e : pls 47 = pl_47 := by funext i; rfl
    rw [e]; exact h
  by_cases h48 : f = 48
  · subst h48
    have h := plok_48
    rw [hf, Option.bind_some, hb, Option.all_some] at h
    have e : pls 48 = pl_48 := by funext i; rfl
    rw [e]; exact h
  by_cases h69 : f = 69
  · subst h69
    have h := plok_69
    rw [hf, Option.bind_some, hb, Option.all_some] at h
    have e : pls 69 = pl_69 := by funext i; rfl
    rw [e]; exact h
  by_cases h70 : f = 70
  · subst h70
    have h := plok_70
    rw [hf, Option.bind_some, hb, Option.all_some] at h
    have e : pls 70 = pl_70 := by funext i; rfl
    rw [e]; exact h
  by_cases h74 : f = 74
  · subst h74
    have h := plok_74
    rw [hf, Option.bind_some, hb, Option.all_some] at h
    have e : pls 74 = pl_74 := by funext i; rfl
    rw [e]; exact h
  by_cases h80 : f = 80
  · subst h80
    have h := plok_80
    rw [hf, Option.bind_some, hb, Option.all_some] at h
    have e : pls 80 = pl_80 := by funext i; rfl
    rw [e]; exact h
  by_cases h86 : f = 86
  · subst h86
    have h := plok_86
    rw [hf, Option.bind_some, hb, Option.all_some] at h
    have e : pls 86 = pl_86 := by funext i; rfl
    rw [e]; exact h
  by_cases h87 : f = 87
  · subst h87
    have h := plok_87
    rw [hf, Option.bind_some, hb, Option.all_some] at h
    have e : pls 87 = pl_87 := by funext i; rfl
    rw [e]; exact h
  by_cases h91 : f = 91
  · subst h91
    have h := plok_91
    rw [hf, Option.bind_some, hb, Option.all_some] at h
    have e : pls 91 = pl_91 := by funext i; rfl
    rw [e]; exact h
  by_cases h93 : f = 93
  · subst h93
    have h := plok_93
    rw [hf, Option.bind_some, hb, Option.all_some] at h
    have e : pls 93 = pl_93 := by funext i; rfl
    rw [e]; exact h
  by_cases h94 : f = 94
  · subst h94
    have h := plok_94
    rw [hf, Option.bind_some, hb, Option.all_some] at h
    have e : pls 94 = pl_94 := by funext i; rfl
    rw [e]; exact h
  by_cases h99 : f = 99
  · subst h99
    have h := plok_99
    rw [hf, Option.bind_some, hb, Option.all_some] at h
    have e : pls 99 = pl_99 := by funext i; rfl
    rw [e]; exact h
  by_cases h104 : f = 104
  · subst h104
    have h := plok_104
    rw [hf, Option.bind_some, hb, Option.all_some] at h
    have e : pls 104 = pl_104 := by funext i; rfl
    rw [e]; exact h
  by_cases h106 : f = 106
  · subst h106
    have h := plok_106
    rw [hf, Option.bind_some, hb, Option.all_some] at h
    have e : pls 106 = pl_106 := by funext i; rfl
    rw [e]; exact h
  exact plOk_none (fun i => by simp only [pls, beq_dec', h3, h4, h5, h8, h11, h13, h14, h15, h24, h26, h28, h29, h30, h33, h35, h36, h37, h40, h43, h44, h47, h48, h69, h70, h74, h80, h86, h87, h91, h93, h94, h99, h104, h106, decide_false, cond_false]) c
theorem runs {f : FuncId} {args : List MV} {r : MV} (N n : Nat) (hcl : clBs args = true) (hcr : clB r = true) (h : ∀ σ, (match callE Tryd.prog pls kn iso roF N n f args [] σ 0 with | some ((v, _), _) => eqB v r | none => false) = true) (H : MH) :
    Spec Tryd.prog f args H fun v H' => v = r ∧ H' = H := run_bool follows pls fok N n kn_spec iso roF hcl hcr h H
end Go.Proofs.YtcikcinkjbbnhaaDoor.M
