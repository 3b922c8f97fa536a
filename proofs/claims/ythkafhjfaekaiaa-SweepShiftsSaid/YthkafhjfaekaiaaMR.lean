/- What a run by the kernel needs of this seat. -/
import Derived.Test.YthkafhjfaekaiaaM19
import Derived.Test.YthkafhjfaekaiaaC10
set_option linter.unusedSimpArgs false
set_option linter.unusedVariables false
set_option maxRecDepth 10000
namespace Go.Proofs.Ythkafhjfaekaiaa.M
open Go Go.Proofs
def pl_3 (i : Nat) : Option (List (Nat × List Nat) × List Nat) := (bif Nat.blt i 27 then (bif Nat.beq i 25 then some ([(0, []), (1, []), (2, []), (4, []), (5, []), (6, []), (7, []), (9, []), (10, []), (11, []), (12, []), (14, []), (15, []), (16, []), (17, []), (18, []), (25, []), (3, [4, 9, 14, 25]), (8, [9, 14, 25]), (13, [14, 25]), (19, [25]), (20, []), (21, [25]), (22, []), (23, []), (24, []), (26, []), (27, [])], [4, 9, 14, 25]) else none) else (bif Nat.blt i 31 then (bif Nat.beq i 27 then some ([(0, []), (1, []), (2, []), (3, []), (4, []), (5, []), (6, []), (7, []), (8, []), (9, []), (10, []), (11, []), (12, []), (13, []), (14, []), (15, []), (16, []), (17, []), (18, []), (19, []), (20, []), (21, []), (22, []), (23, [])], []) else none) else (bif Nat.beq i 31 then some ([(0, []), (1, []), (2, []), (3, []), (4, []), (5, []), (6, []), (7, [3]), (8, []), (9, [])], [3]) else none)))
def pl_4 (i : Nat) : Option (List (Nat × List Nat) × List Nat) := (bif Nat.blt i 21 then (bif Nat.beq i 15 then some ([(0, []), (1, []), (2, []), (3, []), (5, []), (6, []), (7, []), (8, []), (4, [0, 5]), (9, [0]), (10, []), (11, []), (12, []), (13, []), (14, []), (15, [])], [0, 5]) else none) else (bif Nat.blt i 24 then (bif Nat.beq i 21 then some ([(0, []), (1, []), (2, []), (3, []), (5, []), (6, []), (7, []), (8, []), (4, [0, 5]), (9, [0]), (10, []), (11, []), (12, []), (13, []), (14, []), (15, [])], [0, 5]) else none) else (bif Nat.beq i 24 then some ([(0, []), (1, []), (2, []), (3, []), (5, []), (6, []), (7, []), (8, []), (4, [0, 5]), (9, [0]), (10, []), (11, []), (12, []), (13, []), (14, []), (15, [])], [0, 5]) else none)))
def pl_5 (i : Nat) : Option (List (Nat × List Nat) × List Nat) := (bif Nat.blt i 18 then (bif Nat.blt i 15 then (bif Nat.beq i 14 then some ([(0, []), (1, []), (2, []), (3, []), (4, []), (5, []), (7, []), (8, []), (9, []), (10, []), (11, []), (6, [7]), (12, []), (13, []), (14, [])], [7]) else none) else (bif Nat.beq i 15 then some ([(0, []), (1, []), (2, []), (3, []), (4, []), (5, [1]), (6, []), (7, []), (8, []), (9, []), (10, []), (11, []), (12, []), (13, [9]), (14, []), (15, [])], [1, 9]) else none)) else (bif Nat.blt i 20 then (bif Nat.beq i 18 then some ([(0, []), (1, []), (2, []), (3, []), (4, []), (5, []), (8, []), (9, []), (10, []), (11, []), (12, []), (6, [8]), (7, [8]), (13, []), (14, []), (15, []), (16, [])], [8]) else none) else (bif Nat.beq i 20 then some ([(0, []), (1, []), (2, []), (3, []), (4, []), (5, [1]), (6, []), (7, []), (8, []), (9, []), (10, []), (11, []), (12, []), (13, []), (15, []), (16, []), (17, []), (18, []), (14, [9]), (19, [9]), (20, [9]), (21, [9]), (22, []), (23, []), (24, [])], [1, 9]) else none)))
def pl_6 (i : Nat) : Option (List (Nat × List Nat) × List Nat) := (bif Nat.beq i 10 then some ([(0, []), (1, []), (2, []), (3, []), (4, []), (5, []), (6, []), (7, []), (8, []), (9, []), (10, []), (11, [])], []) else none)
def pl_7 (i : Nat) : Option (List (Nat × List Nat) × List Nat) := (bif Nat.beq i 16 then some ([(0, []), (1, []), (2, []), (3, []), (4, []), (5, []), (6, []), (7, []), (8, []), (9, []), (10, []), (11, []), (12, []), (13, []), (14, []), (15, []), (16, []), (17, []), (18, []), (19, []), (20, []), (21, []), (22, []), (23, []), (24, []), (25, []), (26, []), (27, []), (28, []), (29, []), (30, []), (31, [30]), (32, []), (33, []), (34, []), (35, []), (36, []), (37, []), (38, []), (39, []), (40, []), (41, []), (42, []), (43, []), (44, [])], [30]) else none)
def pl_8 (i : Nat) : Option (List (Nat × List Nat) × List Nat) := (bif Nat.beq i 3 then some ([(0, []), (1, [0]), (2, [])], [0]) else none)
def pl_9 (i : Nat) : Option (List (Nat × List Nat) × List Nat) := (bif Nat.blt i 15 then (bif Nat.beq i 9 then some ([(0, []), (1, []), (2, []), (3, []), (4, []), (5, []), (6, []), (7, []), (8, []), (9, []), (10, []), (11, []), (12, []), (13, []), (14, [])], []) else none) else (bif Nat.blt i 19 then (bif Nat.beq i 15 then some ([(0, []), (1, []), (2, []), (3, []), (4, []), (5, []), (6, []), (7, []), (8, [0]), (9, [])], [0]) else none) else (bif Nat.beq i 19 then some ([(0, []), (1, []), (2, []), (3, []), (4, []), (5, []), (6, [0]), (7, [0]), (8, [])], [0]) else none)))
def pl_10 (i : Nat) : Option (List (Nat × List Nat) × List Nat) := (bif Nat.beq i 16 then some ([(0, []), (1, []), (2, []), (4, []), (5, []), (6, []), (7, []), (8, []), (3, [4]), (9, []), (10, []), (11, []), (12, []), (13, []), (14, []), (15, []), (16, []), (17, []), (19, []), (20, []), (21, []), (22, []), (18, [19]), (23, []), (24, []), (25, []), (26, [])], [4, 19]) else none)
def pl_11 (i : Nat) : Option (List (Nat × List Nat) × List Nat) := (bif Nat.beq i 9 then some ([(0, []), (1, []), (2, []), (4, []), (5, []), (6, []), (7, []), (9, []), (10, []), (11, []), (12, []), (14, []), (15, []), (16, []), (17, []), (18, []), (21, []), (3, [4, 9, 14, 21]), (8, [9, 14, 21]), (13, [14, 21]), (19, [21]), (20, []), (22, [])], [4, 9, 14, 21]) else none)
def pl_12 (i : Nat) : Option (List (Nat × List Nat) × List Nat) := (bif Nat.beq i 11 then some ([(0, []), (1, []), (2, []), (4, []), (5, []), (6, []), (7, []), (9, []), (10, []), (11, []), (12, []), (14, []), (15, []), (16, []), (17, []), (18, []), (25, []), (3, [4, 9, 14, 25]), (8, [9, 14, 25]), (13, [14, 25]), (19, [25]), (20, []), (21, [25]), (22, []), (23, []), (24, []), (26, []), (27, [])], [4, 9, 14, 25]) else none)
def pl_15 (i : Nat) : Option (List (Nat × List Nat) × List Nat) := (bif Nat.beq i 7 then some ([(0, []), (1, []), (2, []), (3, []), (4, []), (5, []), (6, []), (10, []), (11, []), (7, [1, 5, 11]), (8, []), (9, []), (12, [11]), (13, [])], [1, 5, 11]) else none)
def pl_16 (i : Nat) : Option (List (Nat × List Nat) × List Nat) := (bif Nat.beq i 6 then some ([(0, []), (1, []), (2, []), (3, []), (4, []), (5, []), (6, []), (7, []), (8, []), (9, []), (10, []), (11, [])], []) else none)
def pl_18 (i : Nat) : Option (List (Nat × List Nat) × List Nat) := (bif Nat.blt i 16 then (bif Nat.beq i 6 then some ([(0, []), (1, []), (2, []), (3, []), (5, []), (6, []), (7, []), (8, []), (4, [0, 5]), (9, [0]), (10, []), (11, []), (12, []), (13, []), (14, []), (15, [])], [0, 5]) else none) else (bif Nat.beq i 16 then some ([(0, []), (1, []), (2, []), (3, []), (5, []), (6, []), (7, []), (8, []), (4, [0, 5]), (9, [0]), (10, []), (11, []), (12, []), (13, []), (14, []), (15, [])], [0, 5]) else none))
def pl_19 (i : Nat) : Option (List (Nat × List Nat) × List Nat) := (bif Nat.beq i 1 then some ([(0, []), (1, []), (2, []), (3, []), (4, []), (6, []), (7, []), (8, []), (9, []), (12, []), (13, []), (14, []), (15, []), (16, []), (18, []), (19, []), (20, []), (21, []), (5, [8, 15, 20]), (10, [15, 20]), (11, [15, 20]), (17, [20]), (22, []), (23, []), (24, []), (25, [])], [8, 15, 20]) else none)
def pl_21 (i : Nat) : Option (List (Nat × List Nat) × List Nat) := (bif Nat.beq i 9 then some ([(0, []), (1, []), (2, []), (4, []), (5, []), (6, []), (3, [4]), (7, []), (8, [])], [4]) else none)
def pl_23 (i : Nat) : Option (List (Nat × List Nat) × List Nat) := (bif Nat.beq i 9 then some ([(0, []), (1, []), (2, []), (3, []), (4, []), (5, []), (6, []), (7, []), (8, []), (9, []), (10, []), (11, []), (12, []), (13, []), (14, [])], []) else none)
def pl_24 (i : Nat) : Option (List (Nat × List Nat) × List Nat) := (bif Nat.blt i 3 then (bif Nat.beq i 2 then some ([(0, []), (1, []), (2, []), (3, []), (4, []), (6, []), (7, []), (8, []), (9, []), (10, []), (5, [6]), (11, []), (12, []), (13, [])], [6]) else none) else (bif Nat.beq i 3 then some ([(0, []), (1, []), (2, []), (3, []), (4, []), (6, []), (7, []), (8, []), (9, []), (10, []), (5, [6]), (11, []), (12, []), (13, [])], [6]) else none))
def pl_28 (i : Nat) : Option (List (Nat × List Nat) × List Nat) := (bif Nat.blt i 3 then (bif Nat.beq i 2 then some ([(0, []), (1, []), (2, []), (3, []), (4, []), (7, []), (8, []), (9, []), (10, []), (11, []), (5, [7]), (6, [7]), (12, []), (13, []), (14, []), (15, [])], [7]) else none) else (bif Nat.beq i 3 then some ([(0, []), (2, []), (3, []), (4, []), (5, []), (6, []), (1, [2]), (7, []), (8, []), (9, [])], [2]) else none))
def pl_30 (i : Nat) : Option (List (Nat × List Nat) × List Nat) := (bif Nat.blt i 27 then (bif Nat.beq i 18 then some ([(0, []), (1, []), (2, []), (3, []), (4, [1]), (5, [])], [1]) else none) else (bif Nat.beq i 27 then some ([(0, []), (1, []), (2, []), (3, [1]), (4, []), (5, [])], [1]) else none))
def pl_40 (i : Nat) : Option (List (Nat × List Nat) × List Nat) := (bif Nat.beq i 3 then some ([(0, []), (1, []), (2, []), (3, []), (4, []), (5, []), (6, []), (7, []), (8, []), (9, []), (10, []), (11, []), (12, []), (13, []), (15, []), (16, []), (14, [16]), (17, []), (18, []), (19, []), (20, [])], [16]) else none)
def pl_44 (i : Nat) : Option (List (Nat × List Nat) × List Nat) := (bif Nat.blt i 7 then (bif Nat.blt i 6 then (bif Nat.beq i 5 then some ([(0, []), (1, []), (2, []), (4, []), (5, []), (6, []), (7, []), (9, []), (10, []), (11, []), (12, []), (3, [4, 9]), (8, [9]), (13, []), (14, []), (15, []), (16, [])], [4, 9]) else none) else (bif Nat.beq i 6 then some ([(0, []), (1, []), (2, []), (3, []), (6, []), (7, []), (9, []), (10, []), (4, [7]), (5, [7]), (8, []), (11, []), (12, []), (13, [])], [7]) else none)) else (bif Nat.blt i 9 then (bif Nat.beq i 7 then some ([(0, []), (1, []), (2, []), (3, []), (4, []), (5, []), (6, []), (9, []), (10, []), (7, [10]), (8, [10]), (11, []), (12, []), (13, [])], [10]) else none) else (bif Nat.blt i 29 then (bif Nat.beq i 9 then some ([(0, []), (2, []), (1, [2]), (3, []), (4, []), (5, [])], [2]) else none) else (bif Nat.beq i 29 then some ([(0, []), (1, []), (2, [1]), (3, []), (4, [])], [1]) else none))))
def pl_47 (i : Nat) : Option (List (Nat × List Nat) × List Nat) := (bif Nat.blt i 31 then (bif Nat.beq i 25 then some ([(0, []), (2, []), (3, []), (4, []), (5, []), (1, [2]), (6, []), (7, []), (8, []), (9, []), (10, [])], [2]) else none) else (bif Nat.beq i 31 then some ([(0, []), (2, []), (3, []), (4, []), (5, []), (1, [2]), (6, []), (7, []), (8, []), (9, []), (10, [])], [2]) else none))
def pl_49 (i : Nat) : Option (List (Nat × List Nat) × List Nat) := (bif Nat.beq i 24 then some ([(0, []), (1, []), (2, []), (3, [1]), (4, []), (5, []), (6, [])], [1]) else none)
def pl_50 (i : Nat) : Option (List (Nat × List Nat) × List Nat) := (bif Nat.beq i 3 then some ([(0, []), (1, []), (2, []), (3, []), (4, []), (7, []), (8, []), (9, []), (5, [7]), (6, [7]), (10, []), (11, []), (12, []), (13, [])], [7]) else none)
def pl_51 (i : Nat) : Option (List (Nat × List Nat) × List Nat) := (bif Nat.blt i 5 then (bif Nat.blt i 3 then (bif Nat.beq i 0 then some ([(0, []), (1, []), (2, []), (3, []), (4, []), (5, []), (7, []), (8, []), (9, []), (10, []), (11, []), (12, []), (13, []), (15, []), (16, []), (17, []), (18, []), (19, []), (20, []), (21, []), (23, []), (24, []), (25, []), (26, []), (27, []), (28, []), (29, []), (30, []), (33, []), (6, [10, 18, 26, 33]), (14, [18, 26, 33]), (22, [26, 33]), (31, [33]), (32, []), (34, [])], [10, 18, 26, 33]) else none) else (bif Nat.blt i 4 then (bif Nat.beq i 3 then some ([(0, []), (1, []), (2, []), (3, []), (4, []), (5, []), (6, []), (7, []), (8, []), (9, []), (10, [])], []) else none) else (bif Nat.beq i 4 then some ([(0, []), (1, []), (2, []), (3, []), (4, []), (5, []), (6, []), (7, []), (8, [])], []) else none))) else (bif Nat.blt i 6 then (bif Nat.beq i 5 then some ([(0, []), (1, []), (2, []), (3, []), (4, []), (5, []), (6, []), (7, []), (8, []), (9, [])], []) else none) else (bif Nat.blt i 7 then (bif Nat.beq i 6 then some ([(0, []), (1, []), (2, []), (3, []), (4, []), (5, []), (6, []), (7, []), (8, []), (9, [])], []) else none) else (bif Nat.beq i 7 then some ([(0, []), (1, []), (2, []), (3, []), (4, []), (5, []), (6, []), (7, []), (8, []), (9, []), (10, [])], []) else none))))
def pl_54 (i : Nat) : Option (List (Nat × List Nat) × List Nat) := (bif Nat.beq i 8 then some ([(0, []), (1, []), (2, []), (3, []), (4, []), (5, []), (6, [0]), (7, [])], [0]) else none)
def pl_60 (i : Nat) : Option (List (Nat × List Nat) × List Nat) := (bif Nat.beq i 7 then some ([(0, []), (1, []), (2, []), (3, []), (4, []), (5, []), (6, []), (7, []), (8, []), (9, []), (10, []), (11, []), (12, []), (13, []), (14, []), (15, [])], []) else none)
def pl_61 (i : Nat) : Option (List (Nat × List Nat) × List Nat) := (bif Nat.blt i 8 then (bif Nat.beq i 6 then some ([(0, []), (1, []), (3, []), (2, [3]), (4, []), (5, [])], [3]) else none) else (bif Nat.beq i 8 then some ([(0, []), (1, []), (2, []), (4, []), (3, [4]), (5, []), (6, []), (7, [])], [4]) else none))
def pl_64 (i : Nat) : Option (List (Nat × List Nat) × List Nat) := (bif Nat.blt i 23 then (bif Nat.beq i 12 then some ([(0, []), (1, []), (3, []), (4, []), (5, []), (2, [5]), (6, [5]), (7, []), (8, []), (9, [])], [5]) else none) else (bif Nat.beq i 23 then some ([(0, []), (1, []), (2, []), (3, []), (4, [1]), (5, []), (6, []), (7, []), (8, [])], [1]) else none))
def pl_65 (i : Nat) : Option (List (Nat × List Nat) × List Nat) := (bif Nat.blt i 7 then (bif Nat.beq i 6 then some ([(0, []), (1, []), (2, [1]), (3, [])], [1]) else none) else (bif Nat.beq i 7 then some ([(0, []), (1, []), (2, [1]), (3, [])], [1]) else none))
def pl_69 (i : Nat) : Option (List (Nat × List Nat) × List Nat) := (bif Nat.blt i 8 then (bif Nat.beq i 2 then some ([(0, []), (1, []), (2, []), (3, []), (4, []), (5, []), (6, []), (7, []), (8, []), (9, []), (10, []), (11, []), (12, []), (13, []), (14, []), (15, [])], []) else none) else (bif Nat.beq i 8 then some ([(0, []), (1, []), (2, []), (4, []), (3, [0, 4]), (5, []), (6, []), (7, []), (8, []), (9, []), (10, []), (11, [0]), (12, []), (13, []), (14, []), (15, []), (16, [])], [0, 4]) else none))
def pl_74 (i : Nat) : Option (List (Nat × List Nat) × List Nat) := (bif Nat.blt i 18 then (bif Nat.blt i 11 then (bif Nat.beq i 10 then some ([(0, []), (1, []), (2, []), (3, []), (4, []), (5, []), (6, []), (7, []), (8, [2, 4, 6]), (9, []), (10, []), (11, [])], [2, 4, 6]) else none) else (bif Nat.beq i 11 then some ([(0, []), (2, []), (1, [2]), (3, []), (4, [])], [2]) else none)) else (bif Nat.blt i 21 then (bif Nat.beq i 18 then some ([(0, []), (1, []), (2, []), (3, []), (4, []), (5, []), (6, []), (7, []), (8, []), (9, []), (10, []), (11, []), (12, []), (17, []), (18, []), (13, [17, 18]), (14, []), (15, []), (16, []), (19, []), (20, [])], [17, 18]) else none) else (bif Nat.blt i 24 then (bif Nat.beq i 21 then some ([(0, []), (1, []), (2, []), (4, []), (5, []), (6, []), (8, []), (9, []), (10, []), (12, []), (13, []), (14, []), (17, []), (3, [6, 10, 14, 17]), (7, [10, 14, 17]), (11, [14, 17]), (15, [17]), (16, []), (18, [])], [6, 10, 14, 17]) else none) else (bif Nat.beq i 24 then some ([(0, []), (1, []), (2, []), (3, []), (4, [1, 3]), (5, [3]), (6, []), (7, [])], [1, 3]) else none))))
def pl_84 (i : Nat) : Option (List (Nat × List Nat) × List Nat) := (bif Nat.beq i 19 then some ([(0, []), (1, []), (2, []), (3, []), (4, []), (5, []), (6, []), (7, []), (8, []), (9, []), (10, []), (12, []), (13, []), (14, []), (11, [0]), (15, [0]), (16, [0]), (17, [])], [0]) else none)
def pl_85 (i : Nat) : Option (List (Nat × List Nat) × List Nat) := (bif Nat.beq i 3 then some ([(0, []), (1, []), (2, []), (4, []), (9, []), (3, [0, 9]), (5, [9]), (6, []), (7, []), (8, []), (10, []), (11, [])], [0, 9]) else none)
def pl_91 (i : Nat) : Option (List (Nat × List Nat) × List Nat) := (bif Nat.blt i 26 then (bif Nat.blt i 11 then (bif Nat.blt i 8 then (bif Nat.beq i 6 then some ([(0, []), (1, []), (2, [1]), (3, [])], [1]) else none) else (bif Nat.blt i 9 then (bif Nat.beq i 8 then some ([(0, []), (1, []), (2, []), (3, []), (4, []), (6, []), (7, []), (5, [2, 7]), (8, []), (9, [2, 7]), (10, [])], [2, 7]) else none) else (bif Nat.beq i 9 then some ([(0, []), (1, []), (2, []), (3, []), (4, []), (5, []), (7, []), (8, []), (6, [8]), (9, []), (10, []), (11, []), (12, [])], [8]) else none))) else (bif Nat.blt i 16 then (bif Nat.blt i 13 then (bif Nat.beq i 11 then some ([(0, []), (1, []), (2, [1]), (3, [])], [1]) else none) else (bif Nat.beq i 13 then some ([(0, []), (1, []), (3, []), (4, []), (2, [4]), (5, []), (6, []), (7, [])], [4]) else none)) else (bif Nat.blt i 24 then (bif Nat.beq i 16 then some ([(0, []), (1, []), (3, []), (4, []), (2, [4]), (5, []), (6, [])], [4]) else none) else (bif Nat.beq i 24 then some ([(0, []), (1, []), (2, []), (4, []), (5, []), (6, []), (7, []), (9, []), (10, []), (11, []), (12, []), (14, []), (18, []), (3, [5, 7, 10, 18]), (8, [10, 18]), (13, [10, 18]), (15, [10, 18]), (16, [18]), (17, []), (19, [])], [5, 7, 10, 18]) else none)))) else (bif Nat.blt i 45 then (bif Nat.blt i 41 then (bif Nat.beq i 26 then some ([(0, []), (1, []), (3, []), (4, []), (5, []), (8, []), (2, [4, 8]), (6, [8]), (7, []), (9, [8]), (10, [])], [4, 8]) else none) else (bif Nat.blt i 42 then (bif Nat.beq i 41 then some ([(0, []), (1, []), (3, []), (4, []), (2, [4]), (5, []), (6, [])], [4]) else none) else (bif Nat.beq i 42 then some ([(0, []), (1, []), (3, []), (4, []), (2, [4]), (5, []), (6, []), (7, [])], [4]) else none))) else (bif Nat.blt i 50 then (bif Nat.blt i 49 then (bif Nat.beq i 45 then some ([(0, []), (1, []), (3, []), (4, []), (2, [4]), (5, []), (6, [])], [4]) else none) else (bif Nat.beq i 49 then some ([(0, []), (1, []), (3, []), (4, []), (5, []), (6, []), (8, []), (9, []), (2, [4, 6]), (7, []), (10, []), (11, []), (12, [])], [4, 6]) else none)) else (bif Nat.blt i 51 then (bif Nat.beq i 50 then some ([(0, []), (1, []), (2, []), (4, []), (5, []), (6, []), (9, []), (10, []), (11, []), (13, []), (14, []), (15, []), (3, [5, 10, 14]), (7, [10, 14]), (8, [10, 14]), (12, [14]), (16, []), (17, []), (18, []), (19, [])], [5, 10, 14]) else none) else (bif Nat.beq i 51 then some ([(0, []), (1, []), (2, [1]), (3, [])], [1]) else none)))))
def pl_94 (i : Nat) : Option (List (Nat × List Nat) × List Nat) := (bif Nat.beq i 18 then some ([(0, []), (1, []), (2, []), (3, []), (4, []), (5, []), (6, []), (7, []), (8, []), (9, []), (10, []), (11, [])], []) else none)
def pl_96 (i : Nat) : Option (List (Nat × List Nat) × List Nat) := (bif Nat.beq i 8 then some ([(0, []), (1, []), (2, []), (3, []), (4, []), (5, []), (6, [0]), (7, [])], [0]) else none)
def pl_98 (i : Nat) : Option (List (Nat × List Nat) × List Nat) := (bif Nat.beq i 5 then some ([(0, []), (1, []), (2, []), (3, []), (4, [])], []) else none)
def pl_101 (i : Nat) : Option (List (Nat × List Nat) × List Nat) := (bif Nat.beq i 6 then some ([(0, []), (1, []), (2, []), (3, []), (4, []), (5, []), (6, []), (7, [])], []) else none)
def pls (f i : Nat) : Option (List (Nat × List Nat) × List Nat) := bif Nat.beq f 3 then pl_3 i else bif Nat.beq f 4 then pl_4 i else bif Nat.beq f 5 then pl_5 i else bif Nat.beq f 6 then pl_6 i else bif Nat.beq f 7 then pl_7 i else bif Nat.beq f 8 then pl_8 i else bif Nat.beq f 9 then pl_9 i else bif Nat.beq f 10 then pl_10 i else bif Nat.beq f 11 then pl_11 i else bif Nat.beq f 12 then pl_12 i else bif Nat.beq f 15 then pl_15 i else bif Nat.beq f 16 then pl_16 i else bif Nat.beq f 18 then pl_18 i else bif Nat.beq f 19 then pl_19 i else bif Nat.beq f 21 then pl_21 i else bif Nat.beq f 23 then pl_23 i else bif Nat.beq f 24 then pl_24 i else bif Nat.beq f 28 then pl_28 i else bif Nat.beq f 30 then pl_30 i else bif Nat.beq f 40 then pl_40 i else bif Nat.beq f 44 then pl_44 i else bif Nat.beq f 47 then pl_47 i else bif Nat.beq f 49 then pl_49 i else bif Nat.beq f 50 then pl_50 i else bif Nat.beq f 51 then pl_51 i else bif Nat.beq f 54 then pl_54 i else bif Nat.beq f 60 then pl_60 i else bif Nat.beq f 61 then pl_61 i else bif Nat.beq f 64 then pl_64 i else bif Nat.beq f 65 then pl_65 i else bif Nat.beq f 69 then pl_69 i else bif Nat.beq f 74 then pl_74 i else bif Nat.beq f 84 then pl_84 i else bif Nat.beq f 85 then pl_85 i else bif Nat.beq f 91 then pl_91 i else bif Nat.beq f 94 then pl_94 i else bif Nat.beq f 96 then pl_96 i else bif Nat.beq f 98 then pl_98 i else bif Nat.beq f 101 then pl_101 i else none
theorem plok_3 : ((Try.prog.funcs[3]?).bind (fun fn => fn.body)).all (plOk pl_3) = true := by kernel_rfl
theorem plok_4 : ((Try.prog.funcs[4]?).bind (fun fn => fn.body)).all (plOk pl_4) = true := by kernel_rfl
theorem plok_5 : ((Try.prog.funcs[5]?).bind (fun fn => fn.body)).all (plOk pl_5) = true := by kernel_rfl
theorem plok_6 : ((Try.prog.funcs[6]?).bind (fun fn => fn.body)).all (plOk pl_6) = true := by kernel_rfl
theorem plok_7 : ((Try.prog.funcs[7]?).bind (fun fn => fn.body)).all (plOk pl_7) = true := by kernel_rfl
theorem plok_8 : ((Try.prog.funcs[8]?).bind (fun fn => fn.body)).all (plOk pl_8) = true := by kernel_rfl
theorem plok_9 : ((Try.prog.funcs[9]?).bind (fun fn => fn.body)).all (plOk pl_9) = true := by kernel_rfl
theorem plok_10 : ((Try.prog.funcs[10]?).bind (fun fn => fn.body)).all (plOk pl_10) = true := by kernel_rfl
theorem plok_11 : ((Try.prog.funcs[11]?).bind (fun fn => fn.body)).all (plOk pl_11) = true := by kernel_rfl
theorem plok_12 : ((Try.prog.funcs[12]?).bind (fun fn => fn.body)).all (plOk pl_12) = true := by kernel_rfl
theorem plok_15 : ((Try.prog.funcs[15]?).bind (fun fn => fn.body)).all (plOk pl_15) = true := by kernel_rfl
theorem plok_16 : ((Try.prog.funcs[16]?).bind (fun fn => fn.body)).all (plOk pl_16) = true := by kernel_rfl
theorem plok_18 : ((Try.prog.funcs[18]?).bind (fun fn => fn.body)).all (plOk pl_18) = true := by kernel_rfl
theorem plok_19 : ((Try.prog.funcs[19]?).bind (fun fn => fn.body)).all (plOk pl_19) = true := by kernel_rfl
theorem plok_21 : ((Try.prog.funcs[21]?).bind (fun fn => fn.body)).all (plOk pl_21) = true := by kernel_rfl
theorem plok_23 : ((Try.prog.funcs[23]?).bind (fun fn => fn.body)).all (plOk pl_23) = true := by kernel_rfl
theorem plok_24 : ((Try.prog.funcs[24]?).bind (fun fn => fn.body)).all (plOk pl_24) = true := by kernel_rfl
theorem plok_28 : ((Try.prog.funcs[28]?).bind (fun fn => fn.body)).all (plOk pl_28) = true := by kernel_rfl
theorem plok_30 : ((Try.prog.funcs[30]?).bind (fun fn => fn.body)).all (plOk pl_30) = true := by kernel_rfl
theorem plok_40 : ((Try.prog.funcs[40]?).bind (fun fn => fn.body)).all (plOk pl_40) = true := by kernel_rfl
theorem plok_44 : ((Try.prog.funcs[44]?).bind (fun fn => fn.body)).all (plOk pl_44) = true := by kernel_rfl
theorem plok_47 : ((Try.prog.funcs[47]?).bind (fun fn => fn.body)).all (plOk pl_47) = true := by kernel_rfl
theorem plok_49 : ((Try.prog.funcs[49]?).bind (fun fn => fn.body)).all (plOk pl_49) = true := by kernel_rfl
theorem plok_50 : ((Try.prog.funcs[50]?).bind (fun fn => fn.body)).all (plOk pl_50) = true := by kernel_rfl
theorem plok_51 : ((Try.prog.funcs[51]?).bind (fun fn => fn.body)).all (plOk pl_51) = true := by kernel_rfl
theorem plok_54 : ((Try.prog.funcs[54]?).bind (fun fn => fn.body)).all (plOk pl_54) = true := by kernel_rfl
theorem plok_60 : ((Try.prog.funcs[60]?).bind (fun fn => fn.body)).all (plOk pl_60) = true := by kernel_rfl
theorem plok_61 : ((Try.prog.funcs[61]?).bind (fun fn => fn.body)).all (plOk pl_61) = true := by kernel_rfl
theorem plok_64 : ((Try.prog.funcs[64]?).bind (fun fn => fn.body)).all (plOk pl_64) = true := by kernel_rfl
theorem plok_65 : ((Try.prog.funcs[65]?).bind (fun fn => fn.body)).all (plOk pl_65) = true := by kernel_rfl
theorem plok_69 : ((Try.prog.funcs[69]?).bind (fun fn => fn.body)).all (plOk pl_69) = true := by kernel_rfl
theorem plok_74 : ((Try.prog.funcs[74]?).bind (fun fn => fn.body)).all (plOk pl_74) = true := by kernel_rfl
theorem plok_84 : ((Try.prog.funcs[84]?).bind (fun fn => fn.body)).all (plOk pl_84) = true := by kernel_rfl
theorem plok_85 : ((Try.prog.funcs[85]?).bind (fun fn => fn.body)).all (plOk pl_85) = true := by kernel_rfl
theorem plok_91 : ((Try.prog.funcs[91]?).bind (fun fn => fn.body)).all (plOk pl_91) = true := by kernel_rfl
theorem plok_94 : ((Try.prog.funcs[94]?).bind (fun fn => fn.body)).all (plOk pl_94) = true := by kernel_rfl
theorem plok_96 : ((Try.prog.funcs[96]?).bind (fun fn => fn.body)).all (plOk pl_96) = true := by kernel_rfl
theorem plok_98 : ((Try.prog.funcs[98]?).bind (fun fn => fn.body)).all (plOk pl_98) = true := by kernel_rfl
theorem plok_101 : ((Try.prog.funcs[101]?).bind (fun fn => fn.body)).all (plOk pl_101) = true := by kernel_rfl

/-- The numbers that cells hold. -/
def decL : List MV → Option (List Int)
  | [] => some []
  | .lit (.int .u64 n) :: l => match decL l with
    | some D => some (n :: D)
    | none => none
  | _ => none
theorem decL_eq : ∀ {l : List MV} {D : List Int}, decL l = some D → l = D.map u64 := by
  intro l
  induction l with
  | nil => intro D h; cases h; rfl
  | cons x l ih =>
    intro D h
    unfold decL at h
    split at h
    · rename_i heq; cases heq
    · rename_i n l' heq
      cases heq
      split at h
      · rename_i D' hD; cases h; rw [ih hD]; rfl
      · cases h
    · cases h
def k_87 (args : List MV) (H : MH) : Option (MV × MH) := match args with
  | [.lit (.int .u64 a), .lit (.int .u64 b), .lit (.int .u64 c)] => bif decide (0 ≤ a) && decide (0 ≤ b) && decide (0 ≤ c) && decide (c ≤ 1) then some (.tup [u64 (add64M a b c).1, u64 (add64M a b c).2], H) else none
  | _ => none
theorem k_87_spec {args : List MV} {H : MH} {r : MV × MH} (h : k_87 args H = some r) : Spec Try.prog 87 args H fun v' H' => v' = r.1 ∧ H' = r.2 := by
  unfold k_87 at h
  split at h
  · rename_i a b c
    rw [Bool.cond_eq_ite] at h
    split at h
    · rename_i hc
      try simp only [Bool.and_eq_true, decide_eq_true_eq] at hc
      cases h
      exact add64_spec hc.1.1.1 hc.1.1.2 ⟨hc.1.2, hc.2⟩ H
    · cases h
  · cases h
def k_88 (args : List MV) (H : MH) : Option (MV × MH) := match args with
  | [.lit (.int .u64 a), .lit (.int .u64 b), .lit (.int .u64 c)] => bif decide (0 ≤ a) && decide (0 ≤ b) && decide (b < 18446744073709551616) && decide (0 ≤ c) && decide (c ≤ 1) then some (.tup [u64 (sub64M a b c).1, u64 (sub64M a b c).2], H) else none
  | _ => none
theorem k_88_spec {args : List MV} {H : MH} {r : MV × MH} (h : k_88 args H = some r) : Spec Try.prog 88 args H fun v' H' => v' = r.1 ∧ H' = r.2 := by
  unfold k_88 at h
  split at h
  · rename_i a b c
    rw [Bool.cond_eq_ite] at h
    split at h
    · rename_i hc
      try simp only [Bool.and_eq_true, decide_eq_true_eq] at hc
      cases h
      exact sub64_spec hc.1.1.1.1 ⟨hc.1.1.1.2, hc.1.1.2⟩ ⟨hc.1.2, hc.2⟩ H
    · cases h
  · cases h
def k_46 (args : List MV) (H : MH) : Option (MV × MH) := match args with
  | [.lit (.int .u64 a), .lit (.int .u64 b)] => bif true then some (.tup [u64 (mulM a b).1, u8 (mulM a b).2], H) else none
  | _ => none
theorem k_46_spec {args : List MV} {H : MH} {r : MV × MH} (h : k_46 args H = some r) : Spec Try.prog 46 args H fun v' H' => v' = r.1 ∧ H' = r.2 := by
  unfold k_46 at h
  split at h
  · rename_i a b
    rw [Bool.cond_eq_ite] at h
    split at h
    · rename_i hc
      try simp only [Bool.and_eq_true, decide_eq_true_eq] at hc
      cases h
      exact mul_spec a b H
    · cases h
  · cases h
def k_47 (args : List MV) (H : MH) : Option (MV × MH) := match args with
  | [.lit (.int .u64 a), .lit (.int .u64 b)] => bif decide (0 ≤ a) && decide (a < 18446744073709551616) && decide (0 ≤ b) && decide (b < 18446744073709551616) then some (.tup [u64 (addM a b).1, u8 (addM a b).2], H) else none
  | _ => none
theorem k_47_spec {args : List MV} {H : MH} {r : MV × MH} (h : k_47 args H = some r) : Spec Try.prog 47 args H fun v' H' => v' = r.1 ∧ H' = r.2 := by
  unfold k_47 at h
  split at h
  · rename_i a b
    rw [Bool.cond_eq_ite] at h
    split at h
    · rename_i hc
      try simp only [Bool.and_eq_true, decide_eq_true_eq] at hc
      cases h
      exact add_spec ⟨hc.1.1.1, hc.1.1.2⟩ ⟨hc.1.2, hc.2⟩ H
    · cases h
  · cases h
def k_35 (args : List MV) (H : MH) : Option (MV × MH) := match args with
  | [.lit (.int .u64 a)] => bif true then some (i64 (kindM a), H) else none
  | _ => none
theorem k_35_spec {args : List MV} {H : MH} {r : MV × MH} (h : k_35 args H = some r) : Spec Try.prog 35 args H fun v' H' => v' = r.1 ∧ H' = r.2 := by
  unfold k_35 at h
  split at h
  · rename_i a
    rw [Bool.cond_eq_ite] at h
    split at h
    · rename_i hc
      try simp only [Bool.and_eq_true, decide_eq_true_eq] at hc
      cases h
      exact kind_spec a H
    · cases h
  · cases h
def k_13 (args : List MV) (H : MH) : Option (MV × MH) := match args with
  | [.lit (.int .u64 a)] => bif true then some (u64 (absM a), H) else none
  | _ => none
theorem k_13_spec {args : List MV} {H : MH} {r : MV × MH} (h : k_13 args H = some r) : Spec Try.prog 13 args H fun v' H' => v' = r.1 ∧ H' = r.2 := by
  unfold k_13 at h
  split at h
  · rename_i a
    rw [Bool.cond_eq_ite] at h
    split at h
    · rename_i hc
      try simp only [Bool.and_eq_true, decide_eq_true_eq] at hc
      cases h
      exact abs_spec a H
    · cases h
  · cases h
def k_37 (args : List MV) (H : MH) : Option (MV × MH) := match args with
  | [.lit (.int .u64 a)] => bif true then some (bl (negM a), H) else none
  | _ => none
theorem k_37_spec {args : List MV} {H : MH} {r : MV × MH} (h : k_37 args H = some r) : Spec Try.prog 37 args H fun v' H' => v' = r.1 ∧ H' = r.2 := by
  unfold k_37 at h
  split at h
  · rename_i a
    rw [Bool.cond_eq_ite] at h
    split at h
    · rename_i hc
      try simp only [Bool.and_eq_true, decide_eq_true_eq] at hc
      cases h
      exact neg_spec a H
    · cases h
  · cases h
def k_34 (args : List MV) (H : MH) : Option (MV × MH) := match args with
  | [.lit (.int .u64 a)] => bif true then some (u64 (flipM a), H) else none
  | _ => none
theorem k_34_spec {args : List MV} {H : MH} {r : MV × MH} (h : k_34 args H = some r) : Spec Try.prog 34 args H fun v' H' => v' = r.1 ∧ H' = r.2 := by
  unfold k_34 at h
  split at h
  · rename_i a
    rw [Bool.cond_eq_ite] at h
    split at h
    · rename_i hc
      try simp only [Bool.and_eq_true, decide_eq_true_eq] at hc
      cases h
      exact flip_spec a H
    · cases h
  · cases h
def k_52 (args : List MV) (H : MH) : Option (MV × MH) := match args with
  | [.lit (.int .u64 a)] => bif true then some (bl (finiteM a), H) else none
  | _ => none
theorem k_52_spec {args : List MV} {H : MH} {r : MV × MH} (h : k_52 args H = some r) : Spec Try.prog 52 args H fun v' H' => v' = r.1 ∧ H' = r.2 := by
  unfold k_52 at h
  split at h
  · rename_i a
    rw [Bool.cond_eq_ite] at h
    split at h
    · rename_i hc
      try simp only [Bool.and_eq_true, decide_eq_true_eq] at hc
      cases h
      exact finite_spec a H
    · cases h
  · cases h
def k_58 (args : List MV) (H : MH) : Option (MV × MH) := match args with
  | [.lit (.int .u64 a)] => bif true then some (bl (signalsM a), H) else none
  | _ => none
theorem k_58_spec {args : List MV} {H : MH} {r : MV × MH} (h : k_58 args H = some r) : Spec Try.prog 58 args H fun v' H' => v' = r.1 ∧ H' = r.2 := by
  unfold k_58 at h
  split at h
  · rename_i a
    rw [Bool.cond_eq_ite] at h
    split at h
    · rename_i hc
      try simp only [Bool.and_eq_true, decide_eq_true_eq] at hc
      cases h
      exact signals_spec a H
    · cases h
  · cases h
def k_53 (args : List MV) (H : MH) : Option (MV × MH) := match args with
  | [.lit (.int .u64 a)] => bif true then some (.tup [u64 (partsM a).1, i64 (partsM a).2], H) else none
  | _ => none
theorem k_53_spec {args : List MV} {H : MH} {r : MV × MH} (h : k_53 args H = some r) : Spec Try.prog 53 args H fun v' H' => v' = r.1 ∧ H' = r.2 := by
  unfold k_53 at h
  split at h
  · rename_i a
    rw [Bool.cond_eq_ite] at h
    split at h
    · rename_i hc
      try simp only [Bool.and_eq_true, decide_eq_true_eq] at hc
      cases h
      exact parts_spec a H
    · cases h
  · cases h
def k_36 (args : List MV) (H : MH) : Option (MV × MH) := match args with
  | [.lit (.int .u64 a), .lit (.int .u64 b)] => bif true then some (u64 (signM a b), H) else none
  | _ => none
theorem k_36_spec {args : List MV} {H : MH} {r : MV × MH} (h : k_36 args H = some r) : Spec Try.prog 36 args H fun v' H' => v' = r.1 ∧ H' = r.2 := by
  unfold k_36 at h
  split at h
  · rename_i a b
    rw [Bool.cond_eq_ite] at h
    split at h
    · rename_i hc
      try simp only [Bool.and_eq_true, decide_eq_true_eq] at hc
      cases h
      exact sign_spec a b H
    · cases h
  · cases h
def k_68 (args : List MV) (H : MH) : Option (MV × MH) := match args with
  | [.lit (.int .u64 a), .lit (.int .u64 b)] => bif true then some (wd (mul64M a b), H) else none
  | _ => none
theorem k_68_spec {args : List MV} {H : MH} {r : MV × MH} (h : k_68 args H = some r) : Spec Try.prog 68 args H fun v' H' => v' = r.1 ∧ H' = r.2 := by
  unfold k_68 at h
  split at h
  · rename_i a b
    rw [Bool.cond_eq_ite] at h
    split at h
    · rename_i hc
      try simp only [Bool.and_eq_true, decide_eq_true_eq] at hc
      cases h
      exact wmul_spec a b H
    · cases h
  · cases h
def k_76 (args : List MV) (H : MH) : Option (MV × MH) := match args with
  | [.agg [.lit (.int .u64 a1), .lit (.int .u64 a2)], .agg [.lit (.int .u64 b1), .lit (.int .u64 b2)]] => bif true then some (i64 (wcmpM (a1, a2) (b1, b2)), H) else none
  | _ => none
theorem k_76_spec {args : List MV} {H : MH} {r : MV × MH} (h : k_76 args H = some r) : Spec Try.prog 76 args H fun v' H' => v' = r.1 ∧ H' = r.2 := by
  unfold k_76 at h
  split at h
  · rename_i a1 a2 b1 b2
    rw [Bool.cond_eq_ite] at h
    split at h
    · rename_i hc
      try simp only [Bool.and_eq_true, decide_eq_true_eq] at hc
      cases h
      exact wcmp_spec (a1, a2) (b1, b2) H
    · cases h
  · cases h
def k_60 (args : List MV) (H : MH) : Option (MV × MH) := match args with
  | [.agg [.lit (.int .u64 a1), .lit (.int .u64 a2)], .lit (.int .i64 b)] => bif true then some (wd (wleftM (a1, a2) b), H) else none
  | _ => none
theorem k_60_spec {args : List MV} {H : MH} {r : MV × MH} (h : k_60 args H = some r) : Spec Try.prog 60 args H fun v' H' => v' = r.1 ∧ H' = r.2 := by
  unfold k_60 at h
  split at h
  · rename_i a1 a2 b
    rw [Bool.cond_eq_ite] at h
    split at h
    · rename_i hc
      try simp only [Bool.and_eq_true, decide_eq_true_eq] at hc
      cases h
      exact wleft_spec (a1, a2) b H
    · cases h
  · cases h
def k_62 (args : List MV) (H : MH) : Option (MV × MH) := match args with
  | [.lit (.bool a), .agg [.lit (.int .u64 b1), .lit (.int .u64 b2)], .lit (.int .i64 c), .lit (.bool d)] => bif decide (0 ≤ b1) && decide (b1 < 18446744073709551616) && decide (0 ≤ b2) && decide (b2 < 18446744073709551616) then some (.tup [u64 (roundM a (b1, b2) c d).1, u8 (roundM a (b1, b2) c d).2], H) else none
  | _ => none
theorem k_62_spec {args : List MV} {H : MH} {r : MV × MH} (h : k_62 args H = some r) : Spec Try.prog 62 args H fun v' H' => v' = r.1 ∧ H' = r.2 := by
  unfold k_62 at h
  split at h
  · rename_i a b1 b2 c d
    rw [Bool.cond_eq_ite] at h
    split at h
    · rename_i hc
      try simp only [Bool.and_eq_true, decide_eq_true_eq] at hc
      cases h
      exact round_spec a ⟨⟨hc.1.1.1, hc.1.1.2⟩, ⟨hc.1.2, hc.2⟩⟩ c d H
    · cases h
  · cases h
def k_59 (args : List MV) (H : MH) : Option (MV × MH) := match args with
  | [.lit (.int .u64 a)] => bif decide (0 ≤ a) && decide (a < 18446744073709551616) then some (i64 (lenM a), H) else none
  | _ => none
theorem k_59_spec {args : List MV} {H : MH} {r : MV × MH} (h : k_59 args H = some r) : Spec Try.prog 59 args H fun v' H' => v' = r.1 ∧ H' = r.2 := by
  unfold k_59 at h
  split at h
  · rename_i a
    rw [Bool.cond_eq_ite] at h
    split at h
    · rename_i hc
      try simp only [Bool.and_eq_true, decide_eq_true_eq] at hc
      cases h
      exact len_spec hc H
    · cases h
  · cases h
def k_14 (args : List MV) (H : MH) : Option (MV × MH) := match args with
  | [.agg [.lit (.int .i64 r), .lit (.int .i64 c), .lit (.int .i64 s), .slice p 0 n z 1], .lit (.int .i64 i), .lit (.int .i64 k)] => match hget H p with
    | some ob => match decL ob.cells with
      | some D => bif decide (s = c) && decide (0 ≤ r) && decide (r ≤ 4096) && decide (0 ≤ c) && decide (c ≤ 4096) && decide (D.length = (r * c).toNat) && decide (D.length = n) then some (u64 (atM r c c D i k), H) else none
      | none => none
    | none => none
  | _ => none
theorem k_14_spec {args : List MV} {H : MH} {u : MV × MH} (h : k_14 args H = some u) : Spec Try.prog 14 args H fun v' H' => v' = u.1 ∧ H' = u.2 := by
  unfold k_14 at h
  split at h
  · rename_i r c s p n z i k
    split at h
    · rename_i ob hob
      split at h
      · rename_i D hD
        rw [Bool.cond_eq_ite] at h
        split at h
        · rename_i hc
          simp only [Bool.and_eq_true, decide_eq_true_eq] at hc
          have hs := hc.1.1.1.1.1.1
          subst hs
          obtain ⟨cells, rw⟩ := ob
          have hcell := decL_eq hD
          simp only at hcell
          subst hcell
          have hp := hob
          cases h
          exact at_ok ⟨hc.1.1.1.1.1.2, hc.1.1.1.1.2, hc.1.1.1.2, hc.1.1.2, hc.1.2⟩ i k hp hc.2
        · cases h
      · cases h
    · cases h
  · cases h
def k_20 (args : List MV) (H : MH) : Option (MV × MH) := match args with
  | [.agg [.lit (.int .i64 r), .lit (.int .i64 c), .lit (.int .i64 s), .slice p 0 n z 1], .lit (.int .i64 i), .lit (.int .i64 k), .lit (.int .u64 b)] => match hget H p with
    | some ob => match decL ob.cells with
      | some D => bif decide (s = c) && decide (0 ≤ r) && decide (r ≤ 4096) && decide (0 ≤ c) && decide (c ≤ 4096) && decide (D.length = (r * c).toNat) && decide (D.length = n) then bif ob.rw then some (.tup [], H.set p (some ⟨(setM r c c D i k b).map u64, true⟩)) else none else none
      | none => none
    | none => none
  | _ => none
theorem k_20_spec {args : List MV} {H : MH} {u : MV × MH} (h : k_20 args H = some u) : Spec Try.prog 20 args H fun v' H' => v' = u.1 ∧ H' = u.2 := by
  unfold k_20 at h
  split at h
  · rename_i r c s p n z i k b
    split at h
    · rename_i ob hob
      split at h
      · rename_i D hD
        rw [Bool.cond_eq_ite] at h
        split at h
        · rename_i hc
          simp only [Bool.and_eq_true, decide_eq_true_eq] at hc
          have hs := hc.1.1.1.1.1.1
          subst hs
          obtain ⟨cells, rw⟩ := ob
          have hcell := decL_eq hD
          simp only at hcell
          subst hcell
          cases rw with
          | false => cases h
          | true =>
            have hp := hob
            cases h
            exact set_ok ⟨hc.1.1.1.1.1.2, hc.1.1.1.1.2, hc.1.1.1.2, hc.1.1.2, hc.1.2⟩ i k b hp hc.2
        · cases h
      · cases h
    · cases h
  · cases h
def kn (f : FuncId) (args : List MV) (H : MH) : Option (MV × MH) := bif Nat.beq f 87 then k_87 args H else bif Nat.beq f 88 then k_88 args H else bif Nat.beq f 46 then k_46 args H else bif Nat.beq f 47 then k_47 args H else bif Nat.beq f 35 then k_35 args H else bif Nat.beq f 13 then k_13 args H else bif Nat.beq f 37 then k_37 args H else bif Nat.beq f 34 then k_34 args H else bif Nat.beq f 52 then k_52 args H else bif Nat.beq f 58 then k_58 args H else bif Nat.beq f 53 then k_53 args H else bif Nat.beq f 36 then k_36 args H else bif Nat.beq f 68 then k_68 args H else bif Nat.beq f 76 then k_76 args H else bif Nat.beq f 60 then k_60 args H else bif Nat.beq f 62 then k_62 args H else bif Nat.beq f 59 then k_59 args H else bif Nat.beq f 14 then k_14 args H else bif Nat.beq f 20 then k_20 args H else none
theorem kn_spec : ∀ f args H r, kn f args H = some r → Spec Try.prog f args H fun v' H' => v' = r.1 ∧ H' = r.2 := by
  intro f args H r h
  unfold kn at h
  rw [beq_dec', Bool.cond_decide] at h
  split at h
  · rename_i hf
    subst hf
    exact k_87_spec h
  rw [beq_dec', Bool.cond_decide] at h
  split at h
  · rename_i hf
    subst hf
    exact k_88_spec h
  rw [beq_dec', Bool.cond_decide] at h
  split at h
  · rename_i hf
    subst hf
    exact k_46_spec h
  rw [beq_dec', Bool.cond_decide] at h
  split at h
  · rename_i hf
    subst hf
    exact k_47_spec h
  rw [beq_dec', Bool.cond_decide] at h
  split at h
  · rename_i hf
    subst hf
    exact k_35_spec h
  rw [beq_dec', Bool.cond_decide] at h
  split at h
  · rename_i hf
    subst hf
    exact k_13_spec h
  rw [beq_dec', Bool.cond_decide] at h
  split at h
  · rename_i hf
    subst hf
    exact k_37_spec h
  rw [beq_dec', Bool.cond_decide] at h
  split at h
  · rename_i hf
    subst hf
    exact k_34_spec h
  rw [beq_dec', Bool.cond_decide] at h
  split at h
  · rename_i hf
    subst hf
    exact k_52_spec h
  rw [beq_dec', Bool.cond_decide] at h
  split at h
  · rename_i hf
    subst hf
    exact k_58_spec h
  rw [beq_dec', Bool.cond_decide] at h
  split at h
  · rename_i hf
    subst hf
    exact k_53_spec h
  rw [beq_dec', Bool.cond_decide] at h
  split at h
  · rename_i hf
    subst hf
    exact k_36_spec h
  rw [beq_dec', Bool.cond_decide] at h
  split at h
  · rename_i hf
    subst hf
    exact k_68_spec h
  rw [beq_dec', Bool.cond_decide] at h
  split at h
  · rename_i hf
    subst hf
    exact k_76_spec h
  rw [beq_dec', Bool.cond_decide] at h
  split at h
  · rename_i hf
    subst hf
    exact k_60_spec h
  rw [beq_dec', Bool.cond_decide] at h
  split at h
  · rename_i hf
    subst hf
    exact k_62_spec h
  rw [beq_dec', Bool.cond_decide] at h
  split at h
  · rename_i hf
    subst hf
    exact k_59_spec h
  rw [beq_dec', Bool.cond_decide] at h
  split at h
  · rename_i hf
    subst hf
    exact k_14_spec h
  rw [beq_dec', Bool.cond_decide] at h
  split at h
  · rename_i hf
    subst hf
    exact k_20_spec h
  cases h
def roF (f : FuncId) : Bool := (match ((bif Nat.blt f 44 then (bif Nat.blt f 23 then (bif Nat.blt f 17 then (bif Nat.blt f 12 then (bif Nat.blt f 11 then (bif Nat.beq f 9 then some () else none) else (bif Nat.beq f 11 then some () else none)) else (bif Nat.blt f 16 then (bif Nat.beq f 12 then some () else none) else (bif Nat.beq f 16 then some () else none))) else (bif Nat.blt f 19 then (bif Nat.blt f 18 then (bif Nat.beq f 17 then some () else none) else (bif Nat.beq f 18 then some () else none)) else (bif Nat.blt f 20 then (bif Nat.beq f 19 then some () else none) else (bif Nat.beq f 20 then some () else none)))) else (bif Nat.blt f 29 then (bif Nat.blt f 26 then (bif Nat.blt f 25 then (bif Nat.beq f 23 then some () else none) else (bif Nat.beq f 25 then some () else none)) else (bif Nat.blt f 27 then (bif Nat.beq f 26 then some () else none) else (bif Nat.beq f 27 then some () else none))) else (bif Nat.blt f 33 then (bif Nat.blt f 30 then (bif Nat.beq f 29 then some () else none) else (bif Nat.beq f 30 then some () else none)) else (bif Nat.blt f 42 then (bif Nat.beq f 33 then some () else none) else (bif Nat.beq f 42 then some () else none))))) else (bif Nat.blt f 80 then (bif Nat.blt f 54 then (bif Nat.blt f 49 then (bif Nat.blt f 45 then (bif Nat.beq f 44 then some () else none) else (bif Nat.beq f 45 then some () else none)) else (bif Nat.blt f 51 then (bif Nat.beq f 49 then some () else none) else (bif Nat.beq f 51 then some () else none))) else (bif Nat.blt f 64 then (bif Nat.blt f 55 then (bif Nat.beq f 54 then some () else none) else (bif Nat.beq f 55 then some () else none)) else (bif Nat.blt f 65 then (bif Nat.beq f 64 then some () else none) else (bif Nat.beq f 65 then some () else none)))) else (bif Nat.blt f 84 then (bif Nat.blt f 82 then (bif Nat.blt f 81 then (bif Nat.beq f 80 then some () else none) else (bif Nat.beq f 81 then some () else none)) else (bif Nat.blt f 83 then (bif Nat.beq f 82 then some () else none) else (bif Nat.beq f 83 then some () else none))) else (bif Nat.blt f 90 then (bif Nat.blt f 85 then (bif Nat.beq f 84 then some () else none) else (bif Nat.beq f 85 then some () else none)) else (bif Nat.blt f 96 then (bif Nat.beq f 90 then some () else none) else (bif Nat.blt f 99 then (bif Nat.beq f 96 then some () else none) else (bif Nat.beq f 99 then some () else none))))))) : Option Unit) with | some _ => false | none => true)
def iso (f : FuncId) : Bool := !(Nat.beq f 29) && !(Nat.beq f 17) && !(Nat.beq f 80) && !(Nat.beq f 54) && !(Nat.beq f 90)
theorem fok : FOk Try.prog pls := by
  have h : Try.prog.funcs.all (fun fn => !(fn.name == "runtime.NumGoroutine") && (match fn.body with | some c => codeOk fn.ntmps c | none => true)) = true := by decide +kernel
  intro f fn c hf hb
  have := Array.all_eq_true_iff_forall_mem.1 h fn (Array.mem_of_getElem? hf)
  simp only [Bool.and_eq_true, hb] at this
  refine ⟨by simpa using this.1, this.2, ?_⟩
  by_cases h3 : f = 3
  · subst h3
    have h := plok_3
    rw [hf, Option.bind_some, hb, Option.all_some] at h
    have e : pls 3 = pl_3 := by funext i; rfl
    rw [e]; exact h
  by_cases h4 : f = 4
  · subst h4
    have h := plok_4
    rw [hf, Option.bind_some, hb, Option.all_some] at h
    have e : pls 4 = pl_4 := by funext i; rfl
    rw [e]; exact h
  by_cases h5 : f = 5
  · subst h5
    have h := plok_5
    rw [hf, Option.bind_some, hb, Option.all_some] at h
    have e : pls 5 = pl_5 := by funext i; rfl
    rw [e]; exact h
  by_cases h6 : f = 6
  · subst h6
    have h := plok_6
    rw [hf, Option.bind_some, hb, Option.all_some] at h
    have e : pls 6 = pl_6 := by funext i; rfl
    rw [e]; exact h
  by_cases h7 : f = 7
  · subst h7
    have h := plok_7
    rw [hf, Option.bind_some, hb, Option.all_some] at h
    have e : pls 7 = pl_7 := by funext i; rfl
    rw [e]; exact h
  by_cases h8 : f = 8
  · subst h8
    have h := plok_8
    rw [hf, Option.bind_some, hb, Option.all_some] at h
    have e : pls 8 = pl_8 := by funext i; rfl
    rw [e]; exact h
  by_cases h9 : f = 9
  · subst h9
    have h := plok_9
    rw [hf, Option.bind_some, hb, Option.all_some] at h
    have e : pls 9 = pl_9 := by funext i; rfl
    rw [e]; exact h
  by_cases h10 : f = 10
  · subst h10
    have h := plok_10
    rw [hf, Option.bind_some, hb, Option.all_some] at h
    have e : pls 10 = pl_10 := by funext i; rfl
    rw [e]; exact h
  by_cases h11 : f = 11
  · subst h11
    have h := plok_11
    rw [hf, Option.bind_some, hb, Option.all_some] at h
    have e : pls 11 = pl_11 := by funext i; rfl
    rw [e]; exact h
  by_cases h12 : f = 12
  · subst h12
    have h := plok_12
    rw [hf, Option.bind_some, hb, Option.all_some] at h
    have e : pls 12 = pl_12 := by funext i; rfl
    rw [e]; exact h
  by_cases h15 : f = 15
  · subst h15
    have h := plok_15
    rw [hf, Option.bind_some, hb, Option.all_some] at h
    have e : pls 15 = pl_15 := by funext i; rfl
    rw [e]; exact h
  by_cases h16 : f = 16
  · subst h16
    have h := plok_16
    rw [hf, Option.bind_some, hb, Option.all_some] at h
    have e : pls 16 = pl_16 := by funext i; rfl
    rw [e]; exact h
  by_cases h18 : f = 18
  · subst h18
    have h := plok_18
    rw [hf, Option.bind_some, hb, Option.all_some] at h
    have e : pls 18 = pl_18 := by funext i; rfl
    rw [e]; exact h
  by_cases h19 : f = 19
  · subst h19
    have h := plok_19
    rw [hf, Option.bind_some, hb, Option.all_some] at h
    have e : pls 19 = pl_19 := by funext i; rfl
    rw [e]; exact h
  by_cases h21 : f = 21
  · subst h21
    have h := plok_21
    rw [hf, Option.bind_some, hb, Option.all_some] at h
    have e : pls 21 = pl_21 := by funext i; rfl
    rw [e]; exact h
  by_cases h23 : f = 23
  · subst h23
    have h := plok_23
    rw [hf, Option.bind_some, hb, Option.all_some] at h
    have e : pls 23 = pl_23 := by funext i; rfl
    rw [e]; exact h
  by_cases h24 : f = 24
  · subst h24
    have h := plok_24
    rw [hf, Option.bind_some, hb, Option.all_some] at h
    have e : pls 24 = pl_24 := by funext i; rfl
    rw [e]; exact h
  by_cases h28 : f = 28
  · subst h28
    have h := plok_28
    rw [hf, Option.bind_some, hb, Option.all_some] at h
    have e : pls 28 = pl_28 := by funext i; rfl
    rw [e]; exact h
  by_cases h30 : f = 30
  · subst h30
    have h := plok_30
    rw [hf, Option.bind_some, hb, Option.all_some] at h
    have e : pls 30 = pl_30 := by funext i; rfl
    rw [e]; exact h
  by_cases h40 : f = 40
  · subst h40
    have h := plok_40
    rw [hf, Option.bind_some, hb, Option.all_some] at h
    have e : pls 40 = pl_40 := by funext i; rfl
    rw [e]; exact h
  by_cases h44 : f = 44
  · subst h44
    have h := plok_44
    rw [hf, Option.bind_some, hb, Option.all_some] at h
    have e : pls 44 = pl_44 := by funext i; rfl
    rw [e]; exact h
  by_cases h47 : f = 47
  · subst h47
    have h := plok_47
    rw [hf, Option.bind_some, hb, Option.all_some] at h
    have e : pls 47 = pl_47 := by funext i; rfl
    rw [e]; exact h
  by_cases h49 : f = 49
  · subst h49
    have h := plok_49
    rw [hf, Option.bind_some, hb, Option.all_some] at h
    have e : pls 49 = pl_49 := by funext i; rfl
    rw [e]; exact h
  by_cases h50 : f = 50
  · subst h50
    have h := plok_50
    rw [hf, Option.bind_some, hb, Option.all_some] at h
    have e : pls 50 = pl_50 := by funext i; rfl
    rw [e]; exact h
  by_cases h51 : f = 51
  · subst h51
    have h := plok_51
    rw [hf, Option.bind_some, hb, Option.all_some] at h
    have e : pls 51 = pl_51 := by funext i; rfl
    rw [e]; exact h
  by_cases h54 : f = 54
  · subst h54
    have h := plok_54
    rw [hf, Option.bind_some, hb, Option.all_some] at h
    have e : pls 54 = pl_54 := by funext i; rfl
    rw [e]; exact h
  by_cases h60 : f = 60
  · subst h60
    have h := plok_60
    rw [hf, Option.bind_some, hb, Option.all_some] at h
    have e : pls 60 = pl_60 := by funext i; rfl
    rw [e]; exact h
  by_cases h61 : f = 61
  · subst h61
    have h := plok_61
    rw [hf, Option.bind_some, hb, Option.all_some] at h
    have e : pls 61 = pl_61 := by funext i; rfl
    rw [e]; exact h
  by_cases h64 : f = 64
  · subst h64
    have h := plok_64
    rw [hf, Option.bind_some, hb, Option.all_some] at h
    have e : pls 64 = pl_64 := by funext i; rfl
    rw [e]; exact h
  by_cases h65 : f = 65
  · subst h65
    have h := plok_65
    rw [hf, Option.bind_some, hb, Option.all_some] at h
    have e : pls 65 = pl_65 := by funext i; rfl
    rw [e]; exact h
  by_cases h69 : f = 69
  · subst h69
    have h := plok_69
    rw [hf, Option.bind_some, hb, Option.all_some] at h
    have e : pls 69 = pl_69 := by funext i; rfl
    rw [e]; exact h
  by_cases h74 : f = 74
  · subst h74
    have h := plok_74
    rw [hf, Option.bind_some, hb, Option.all_some] at h
    have e : pls 74 = pl_74 := by funext i; rfl
    rw [e]; exact h
  by_cases h84 : f = 84
  · subst h84
    have h := plok_84
    rw [hf, Option.bind_some, hb, Option.all_some] at h
    have e : pls 84 = pl_84 := by funext i; rfl
    rw [e]; exact h
  by_cases h85 : f = 85
  · subst h85
    have h := plok_85
    rw [hf, Option.bind_some, hb, Option.all_some] at h
    have e : pls 85 = pl_85 := by funext i; rfl
    rw [e]; exact h
  by_cases h91 : f = 91
  · subst h91
    have h := plok_91
    rw [hf, Option.bind_some, hb, Option.all_some] at h
    have e : pls 91 = pl_91 := by funext i; rfl
    rw [e]; exact h
  by_cases h94 : f = 94
  · subst h94
    have h := plok_94
    rw [hf, Option.bind_some, hb, Option.all_some] at h
    have e : pls 94 = pl_94 := by funext i; rfl
    rw [e]; exact h
  by_cases h96 : f = 96
  · subst h96
    have h := plok_96
    rw [hf, Option.bind_some, hb, Option.all_some] at h
    have e : pls 96 = pl_96 := by funext i; rfl
    rw [e]; exact h
  by_cases h98 : f = 98
  · subst h98
    have h := plok_98
    rw [hf, Option.bind_some, hb, Option.all_some] at h
    have e : pls 98 = pl_98 := by funext i; rfl
    rw [e]; exact h
  by_cases h101 : f = 101
  · subst h101
    have h := plok_101
    rw [hf, Option.bind_some, hb, Option.all_some] at h
    have e : pls 101 = pl_101 := by funext i; rfl
    rw [e]; exact h
  exact plOk_none (fun i => by simp only [pls, beq_dec', h3, h4, h5, h6, h7, h8, h9, h10, h11, h12, h15, h16, h18, h19, h21, h23, h24, h28, h30, h40, h44, h47, h49, h50, h51, h54, h60, h61, h64, h65, h69, h74, h84, h85, h91, h94, h96, h98, h101, decide_false, cond_false]) c
theorem runs {f : FuncId} {args : List MV} {r : MV} (N n : Nat) (hcl : clBs args = true) (hcr : clB r = true) (h : ∀ σ, (match callE Try.prog pls kn iso roF N n f args [] σ 0 with | some ((v, _), _) => eqB v r | none => false) = true) (H : MH) :
    Spec Try.prog f args H fun v H' => v = r ∧ H' = H := run_bool follows pls fok N n kn_spec iso roF hcl hcr h H
end Go.Proofs.Ythkafhjfaekaiaa.M
