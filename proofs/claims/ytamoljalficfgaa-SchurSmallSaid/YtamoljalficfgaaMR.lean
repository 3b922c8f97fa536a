/- What a run by the kernel needs of this seat. -/
import Derived.Test.YtamoljalficfgaaM19
import Derived.Test.YtamoljalficfgaaC10
set_option linter.unusedSimpArgs false
set_option linter.unusedVariables false
set_option maxRecDepth 10000
namespace Go.Proofs.Ytamoljalficfgaa.M
open Go Go.Proofs
def pl_3 (i : Nat) : Option (List (Nat × List Nat) × List Nat) := (bif Nat.blt i 27 then (bif Nat.beq i 25 then some ([(0, []), (1, []), (2, []), (4, []), (5, []), (6, []), (7, []), (9, []), (10, []), (11, []), (12, []), (14, []), (15, []), (16, []), (17, []), (18, []), (25, []), (3, [4, 9, 14, 25]), (8, [9, 14, 25]), (13, [14, 25]), (19, [25]), (20, []), (21, [25]), (22, []), (23, []), (24, []), (26, []), (27, [])], [4, 9, 14, 25]) else none) else (bif Nat.blt i 31 then (bif Nat.beq i 27 then some ([(0, []), (1, []), (2, []), (3, []), (4, []), (5, []), (6, []), (7, []), (8, []), (9, []), (10, []), (11, []), (12, []), (13, []), (14, []), (15, []), (16, []), (17, []), (18, []), (19, []), (20, []), (21, []), (22, []), (23, [])], []) else none) else (bif Nat.beq i 31 then some ([(0, []), (1, []), (2, []), (3, []), (4, []), (5, []), (6, []), (7, [3]), (8, []), (9, [])], [3]) else none)))
def pl_4 (i : Nat) : Option (List (Nat × List Nat) × List Nat) := (bif Nat.beq i 16 then some ([(0, []), (1, []), (2, []), (3, []), (4, []), (5, []), (6, []), (7, []), (8, []), (9, []), (10, []), (11, []), (12, []), (13, []), (14, [])], []) else none)
def pl_5 (i : Nat) : Option (List (Nat × List Nat) × List Nat) := (bif Nat.beq i 10 then some ([(0, []), (1, []), (2, []), (3, []), (4, []), (5, []), (6, []), (7, []), (8, []), (9, []), (10, []), (11, [])], []) else none)
def pl_6 (i : Nat) : Option (List (Nat × List Nat) × List Nat) := (bif Nat.beq i 16 then some ([(0, []), (1, []), (2, []), (3, []), (4, []), (5, []), (6, []), (7, []), (8, []), (9, []), (10, []), (11, []), (12, []), (13, []), (14, []), (15, []), (16, []), (17, []), (18, []), (19, []), (20, []), (21, []), (22, []), (23, []), (24, []), (25, []), (26, []), (27, []), (28, []), (29, []), (30, []), (31, [30]), (32, []), (33, []), (34, []), (35, []), (36, []), (37, []), (38, []), (39, []), (40, []), (41, []), (42, []), (43, []), (44, [])], [30]) else none)
def pl_7 (i : Nat) : Option (List (Nat × List Nat) × List Nat) := (bif Nat.beq i 3 then some ([(0, []), (1, [0]), (2, [])], [0]) else none)
def pl_8 (i : Nat) : Option (List (Nat × List Nat) × List Nat) := (bif Nat.blt i 15 then (bif Nat.beq i 9 then some ([(0, []), (1, []), (2, []), (3, []), (4, []), (5, []), (6, []), (7, []), (8, []), (9, []), (10, []), (11, []), (12, []), (13, []), (14, [])], []) else none) else (bif Nat.blt i 19 then (bif Nat.beq i 15 then some ([(0, []), (1, []), (2, []), (3, []), (4, []), (5, []), (6, []), (7, []), (8, [0]), (9, [])], [0]) else none) else (bif Nat.beq i 19 then some ([(0, []), (1, []), (2, []), (3, []), (4, []), (5, []), (6, [0]), (7, [0]), (8, [])], [0]) else none)))
def pl_9 (i : Nat) : Option (List (Nat × List Nat) × List Nat) := (bif Nat.beq i 16 then some ([(0, []), (1, []), (2, []), (4, []), (5, []), (6, []), (7, []), (8, []), (3, [4]), (9, []), (10, []), (11, []), (12, []), (13, []), (14, []), (15, []), (16, []), (17, []), (19, []), (20, []), (21, []), (22, []), (18, [19]), (23, []), (24, []), (25, []), (26, [])], [4, 19]) else none)
def pl_10 (i : Nat) : Option (List (Nat × List Nat) × List Nat) := (bif Nat.beq i 9 then some ([(0, []), (1, []), (2, []), (4, []), (5, []), (6, []), (7, []), (9, []), (10, []), (11, []), (12, []), (14, []), (15, []), (16, []), (17, []), (18, []), (21, []), (3, [4, 9, 14, 21]), (8, [9, 14, 21]), (13, [14, 21]), (19, [21]), (20, []), (22, [])], [4, 9, 14, 21]) else none)
def pl_11 (i : Nat) : Option (List (Nat × List Nat) × List Nat) := (bif Nat.beq i 11 then some ([(0, []), (1, []), (2, []), (4, []), (5, []), (6, []), (7, []), (9, []), (10, []), (11, []), (12, []), (14, []), (15, []), (16, []), (17, []), (18, []), (25, []), (3, [4, 9, 14, 25]), (8, [9, 14, 25]), (13, [14, 25]), (19, [25]), (20, []), (21, [25]), (22, []), (23, []), (24, []), (26, []), (27, [])], [4, 9, 14, 25]) else none)
def pl_14 (i : Nat) : Option (List (Nat × List Nat) × List Nat) := (bif Nat.beq i 7 then some ([(0, []), (1, []), (2, []), (3, []), (4, []), (5, []), (6, []), (10, []), (11, []), (7, [1, 5, 11]), (8, []), (9, []), (12, [11]), (13, [])], [1, 5, 11]) else none)
def pl_18 (i : Nat) : Option (List (Nat × List Nat) × List Nat) := (bif Nat.beq i 24 then some ([(0, []), (1, []), (2, []), (3, [1]), (4, []), (5, []), (6, [])], [1]) else none)
def pl_20 (i : Nat) : Option (List (Nat × List Nat) × List Nat) := (bif Nat.blt i 27 then (bif Nat.beq i 18 then some ([(0, []), (1, []), (2, []), (3, []), (4, [1]), (5, [])], [1]) else none) else (bif Nat.beq i 27 then some ([(0, []), (1, []), (2, []), (3, [1]), (4, []), (5, [])], [1]) else none))
def pl_24 (i : Nat) : Option (List (Nat × List Nat) × List Nat) := (bif Nat.beq i 9 then some ([(0, []), (1, []), (2, []), (4, []), (5, []), (6, []), (3, [4]), (7, []), (8, [])], [4]) else none)
def pl_31 (i : Nat) : Option (List (Nat × List Nat) × List Nat) := (bif Nat.beq i 3 then some ([(0, []), (1, []), (2, []), (3, []), (4, []), (5, []), (6, []), (7, []), (8, []), (9, []), (10, []), (11, []), (12, []), (13, []), (15, []), (16, []), (14, [16]), (17, []), (18, []), (19, []), (20, [])], [16]) else none)
def pl_36 (i : Nat) : Option (List (Nat × List Nat) × List Nat) := (bif Nat.blt i 23 then (bif Nat.beq i 12 then some ([(0, []), (1, []), (3, []), (4, []), (5, []), (2, [5]), (6, [5]), (7, []), (8, []), (9, [])], [5]) else none) else (bif Nat.beq i 23 then some ([(0, []), (1, []), (2, []), (3, []), (4, [1]), (5, []), (6, []), (7, []), (8, [])], [1]) else none))
def pl_37 (i : Nat) : Option (List (Nat × List Nat) × List Nat) := (bif Nat.blt i 7 then (bif Nat.beq i 6 then some ([(0, []), (1, []), (2, [1]), (3, [])], [1]) else none) else (bif Nat.beq i 7 then some ([(0, []), (1, []), (2, [1]), (3, [])], [1]) else none))
def pl_38 (i : Nat) : Option (List (Nat × List Nat) × List Nat) := (bif Nat.beq i 3 then some ([(0, []), (1, []), (2, []), (3, []), (4, []), (7, []), (8, []), (9, []), (5, [7]), (6, [7]), (10, []), (11, []), (12, []), (13, [])], [7]) else none)
def pl_39 (i : Nat) : Option (List (Nat × List Nat) × List Nat) := (bif Nat.blt i 5 then (bif Nat.blt i 3 then (bif Nat.beq i 0 then some ([(0, []), (1, []), (2, []), (3, []), (4, []), (5, []), (7, []), (8, []), (9, []), (10, []), (11, []), (12, []), (13, []), (15, []), (16, []), (17, []), (18, []), (19, []), (20, []), (21, []), (23, []), (24, []), (25, []), (26, []), (27, []), (28, []), (29, []), (30, []), (33, []), (6, [10, 18, 26, 33]), (14, [18, 26, 33]), (22, [26, 33]), (31, [33]), (32, []), (34, [])], [10, 18, 26, 33]) else none) else (bif Nat.blt i 4 then (bif Nat.beq i 3 then some ([(0, []), (1, []), (2, []), (3, []), (4, []), (5, []), (6, []), (7, []), (8, []), (9, []), (10, [])], []) else none) else (bif Nat.beq i 4 then some ([(0, []), (1, []), (2, []), (3, []), (4, []), (5, []), (6, []), (7, []), (8, [])], []) else none))) else (bif Nat.blt i 6 then (bif Nat.beq i 5 then some ([(0, []), (1, []), (2, []), (3, []), (4, []), (5, []), (6, []), (7, []), (8, []), (9, [])], []) else none) else (bif Nat.blt i 7 then (bif Nat.beq i 6 then some ([(0, []), (1, []), (2, []), (3, []), (4, []), (5, []), (6, []), (7, []), (8, []), (9, [])], []) else none) else (bif Nat.beq i 7 then some ([(0, []), (1, []), (2, []), (3, []), (4, []), (5, []), (6, []), (7, []), (8, []), (9, []), (10, [])], []) else none))))
def pl_40 (i : Nat) : Option (List (Nat × List Nat) × List Nat) := (bif Nat.blt i 3 then (bif Nat.beq i 2 then some ([(0, []), (1, []), (2, []), (3, []), (4, []), (6, []), (7, []), (8, []), (9, []), (10, []), (5, [6]), (11, []), (12, []), (13, [])], [6]) else none) else (bif Nat.beq i 3 then some ([(0, []), (1, []), (2, []), (3, []), (4, []), (6, []), (7, []), (8, []), (9, []), (10, []), (5, [6]), (11, []), (12, []), (13, [])], [6]) else none))
def pl_41 (i : Nat) : Option (List (Nat × List Nat) × List Nat) := (bif Nat.blt i 3 then (bif Nat.beq i 2 then some ([(0, []), (1, []), (2, []), (3, []), (4, []), (7, []), (8, []), (9, []), (10, []), (11, []), (5, [7]), (6, [7]), (12, []), (13, []), (14, []), (15, [])], [7]) else none) else (bif Nat.beq i 3 then some ([(0, []), (2, []), (3, []), (4, []), (5, []), (6, []), (1, [2]), (7, []), (8, []), (9, [])], [2]) else none))
def pl_42 (i : Nat) : Option (List (Nat × List Nat) × List Nat) := (bif Nat.blt i 7 then (bif Nat.blt i 6 then (bif Nat.beq i 5 then some ([(0, []), (1, []), (2, []), (4, []), (5, []), (6, []), (7, []), (9, []), (10, []), (11, []), (12, []), (3, [4, 9]), (8, [9]), (13, []), (14, []), (15, []), (16, [])], [4, 9]) else none) else (bif Nat.beq i 6 then some ([(0, []), (1, []), (2, []), (3, []), (6, []), (7, []), (9, []), (10, []), (4, [7]), (5, [7]), (8, []), (11, []), (12, []), (13, [])], [7]) else none)) else (bif Nat.blt i 9 then (bif Nat.beq i 7 then some ([(0, []), (1, []), (2, []), (3, []), (4, []), (5, []), (6, []), (9, []), (10, []), (7, [10]), (8, [10]), (11, []), (12, []), (13, [])], [10]) else none) else (bif Nat.blt i 29 then (bif Nat.beq i 9 then some ([(0, []), (2, []), (1, [2]), (3, []), (4, []), (5, [])], [2]) else none) else (bif Nat.beq i 29 then some ([(0, []), (1, []), (2, [1]), (3, []), (4, [])], [1]) else none))))
def pl_45 (i : Nat) : Option (List (Nat × List Nat) × List Nat) := (bif Nat.beq i 8 then some ([(0, []), (1, []), (2, []), (3, []), (4, []), (5, []), (6, [0]), (7, [])], [0]) else none)
def pl_52 (i : Nat) : Option (List (Nat × List Nat) × List Nat) := (bif Nat.beq i 7 then some ([(0, []), (1, []), (2, []), (3, []), (4, []), (5, []), (6, []), (7, []), (8, []), (9, []), (10, []), (11, []), (12, []), (13, []), (14, []), (15, [])], []) else none)
def pl_53 (i : Nat) : Option (List (Nat × List Nat) × List Nat) := (bif Nat.blt i 8 then (bif Nat.beq i 6 then some ([(0, []), (1, []), (3, []), (2, [3]), (4, []), (5, [])], [3]) else none) else (bif Nat.beq i 8 then some ([(0, []), (1, []), (2, []), (4, []), (3, [4]), (5, []), (6, []), (7, [])], [4]) else none))
def pl_63 (i : Nat) : Option (List (Nat × List Nat) × List Nat) := (bif Nat.beq i 19 then some ([(0, []), (1, []), (2, []), (3, []), (4, []), (5, []), (6, []), (7, []), (8, []), (9, []), (10, []), (12, []), (13, []), (14, []), (11, [0]), (15, [0]), (16, [0]), (17, [])], [0]) else none)
def pl_64 (i : Nat) : Option (List (Nat × List Nat) × List Nat) := (bif Nat.beq i 3 then some ([(0, []), (1, []), (2, []), (4, []), (9, []), (3, [0, 9]), (5, [9]), (6, []), (7, []), (8, []), (10, []), (11, [])], [0, 9]) else none)
def pl_67 (i : Nat) : Option (List (Nat × List Nat) × List Nat) := (bif Nat.blt i 18 then (bif Nat.blt i 11 then (bif Nat.beq i 10 then some ([(0, []), (1, []), (2, []), (3, []), (4, []), (5, []), (6, []), (7, []), (8, [2, 4, 6]), (9, []), (10, []), (11, [])], [2, 4, 6]) else none) else (bif Nat.beq i 11 then some ([(0, []), (2, []), (1, [2]), (3, []), (4, [])], [2]) else none)) else (bif Nat.blt i 21 then (bif Nat.beq i 18 then some ([(0, []), (1, []), (2, []), (3, []), (4, []), (5, []), (6, []), (7, []), (8, []), (9, []), (10, []), (11, []), (12, []), (17, []), (18, []), (13, [17, 18]), (14, []), (15, []), (16, []), (19, []), (20, [])], [17, 18]) else none) else (bif Nat.blt i 24 then (bif Nat.beq i 21 then some ([(0, []), (1, []), (2, []), (4, []), (5, []), (6, []), (8, []), (9, []), (10, []), (12, []), (13, []), (14, []), (17, []), (3, [6, 10, 14, 17]), (7, [10, 14, 17]), (11, [14, 17]), (15, [17]), (16, []), (18, [])], [6, 10, 14, 17]) else none) else (bif Nat.beq i 24 then some ([(0, []), (1, []), (2, []), (3, []), (4, [1, 3]), (5, [3]), (6, []), (7, [])], [1, 3]) else none))))
def pl_68 (i : Nat) : Option (List (Nat × List Nat) × List Nat) := (bif Nat.blt i 16 then (bif Nat.beq i 6 then some ([(0, []), (1, []), (2, []), (3, []), (5, []), (6, []), (7, []), (8, []), (4, [0, 5]), (9, [0]), (10, []), (11, []), (12, []), (13, []), (14, []), (15, [])], [0, 5]) else none) else (bif Nat.beq i 16 then some ([(0, []), (1, []), (2, []), (3, []), (5, []), (6, []), (7, []), (8, []), (4, [0, 5]), (9, [0]), (10, []), (11, []), (12, []), (13, []), (14, []), (15, [])], [0, 5]) else none))
def pl_75 (i : Nat) : Option (List (Nat × List Nat) × List Nat) := (bif Nat.blt i 8 then (bif Nat.beq i 2 then some ([(0, []), (1, []), (2, []), (3, []), (4, []), (5, []), (6, []), (7, []), (8, []), (9, []), (10, []), (11, []), (12, []), (13, []), (14, []), (15, [])], []) else none) else (bif Nat.beq i 8 then some ([(0, []), (1, []), (2, []), (4, []), (3, [0, 4]), (5, []), (6, []), (7, []), (8, []), (9, []), (10, []), (11, [0]), (12, []), (13, []), (14, []), (15, []), (16, [])], [0, 4]) else none))
def pl_80 (i : Nat) : Option (List (Nat × List Nat) × List Nat) := (bif Nat.beq i 18 then some ([(0, []), (1, []), (2, []), (3, []), (4, []), (5, []), (6, []), (7, []), (8, []), (9, []), (10, []), (11, [])], []) else none)
def pl_83 (i : Nat) : Option (List (Nat × List Nat) × List Nat) := (bif Nat.beq i 8 then some ([(0, []), (1, []), (2, []), (3, []), (4, []), (5, []), (6, [0]), (7, [])], [0]) else none)
def pl_84 (i : Nat) : Option (List (Nat × List Nat) × List Nat) := (bif Nat.blt i 31 then (bif Nat.beq i 25 then some ([(0, []), (2, []), (3, []), (4, []), (5, []), (1, [2]), (6, []), (7, []), (8, []), (9, []), (10, [])], [2]) else none) else (bif Nat.beq i 31 then some ([(0, []), (2, []), (3, []), (4, []), (5, []), (1, [2]), (6, []), (7, []), (8, []), (9, []), (10, [])], [2]) else none))
def pl_87 (i : Nat) : Option (List (Nat × List Nat) × List Nat) := (bif Nat.blt i 26 then (bif Nat.blt i 11 then (bif Nat.blt i 8 then (bif Nat.beq i 6 then some ([(0, []), (1, []), (2, [1]), (3, [])], [1]) else none) else (bif Nat.blt i 9 then (bif Nat.beq i 8 then some ([(0, []), (1, []), (2, []), (3, []), (4, []), (6, []), (7, []), (5, [2, 7]), (8, []), (9, [2, 7]), (10, [])], [2, 7]) else none) else (bif Nat.beq i 9 then some ([(0, []), (1, []), (2, []), (3, []), (4, []), (5, []), (7, []), (8, []), (6, [8]), (9, []), (10, []), (11, []), (12, [])], [8]) else none))) else (bif Nat.blt i 16 then (bif Nat.blt i 13 then (bif Nat.beq i 11 then some ([(0, []), (1, []), (2, [1]), (3, [])], [1]) else none) else (bif Nat.beq i 13 then some ([(0, []), (1, []), (3, []), (4, []), (2, [4]), (5, []), (6, []), (7, [])], [4]) else none)) else (bif Nat.blt i 24 then (bif Nat.beq i 16 then some ([(0, []), (1, []), (3, []), (4, []), (2, [4]), (5, []), (6, [])], [4]) else none) else (bif Nat.beq i 24 then some ([(0, []), (1, []), (2, []), (4, []), (5, []), (6, []), (7, []), (9, []), (10, []), (11, []), (12, []), (14, []), (18, []), (3, [5, 7, 10, 18]), (8, [10, 18]), (13, [10, 18]), (15, [10, 18]), (16, [18]), (17, []), (19, [])], [5, 7, 10, 18]) else none)))) else (bif Nat.blt i 45 then (bif Nat.blt i 41 then (bif Nat.beq i 26 then some ([(0, []), (1, []), (3, []), (4, []), (5, []), (8, []), (2, [4, 8]), (6, [8]), (7, []), (9, [8]), (10, [])], [4, 8]) else none) else (bif Nat.blt i 42 then (bif Nat.beq i 41 then some ([(0, []), (1, []), (3, []), (4, []), (2, [4]), (5, []), (6, [])], [4]) else none) else (bif Nat.beq i 42 then some ([(0, []), (1, []), (3, []), (4, []), (2, [4]), (5, []), (6, []), (7, [])], [4]) else none))) else (bif Nat.blt i 50 then (bif Nat.blt i 49 then (bif Nat.beq i 45 then some ([(0, []), (1, []), (3, []), (4, []), (2, [4]), (5, []), (6, [])], [4]) else none) else (bif Nat.beq i 49 then some ([(0, []), (1, []), (3, []), (4, []), (5, []), (6, []), (8, []), (9, []), (2, [4, 6]), (7, []), (10, []), (11, []), (12, [])], [4, 6]) else none)) else (bif Nat.blt i 51 then (bif Nat.beq i 50 then some ([(0, []), (1, []), (2, []), (4, []), (5, []), (6, []), (9, []), (10, []), (11, []), (13, []), (14, []), (15, []), (3, [5, 10, 14]), (7, [10, 14]), (8, [10, 14]), (12, [14]), (16, []), (17, []), (18, []), (19, [])], [5, 10, 14]) else none) else (bif Nat.beq i 51 then some ([(0, []), (1, []), (2, [1]), (3, [])], [1]) else none)))))
def pl_89 (i : Nat) : Option (List (Nat × List Nat) × List Nat) := (bif Nat.beq i 1 then some ([(0, []), (1, []), (2, []), (3, []), (4, []), (6, []), (7, []), (8, []), (9, []), (12, []), (13, []), (14, []), (15, []), (16, []), (18, []), (19, []), (20, []), (21, []), (5, [8, 15, 20]), (10, [15, 20]), (11, [15, 20]), (17, [20]), (22, []), (23, []), (24, []), (25, [])], [8, 15, 20]) else none)
def pl_95 (i : Nat) : Option (List (Nat × List Nat) × List Nat) := (bif Nat.beq i 5 then some ([(0, []), (1, []), (2, []), (3, []), (4, [])], []) else none)
def pl_97 (i : Nat) : Option (List (Nat × List Nat) × List Nat) := (bif Nat.beq i 6 then some ([(0, []), (1, []), (2, []), (3, []), (4, []), (5, []), (6, []), (7, [])], []) else none)
def pls (f i : Nat) : Option (List (Nat × List Nat) × List Nat) := bif Nat.beq f 3 then pl_3 i else bif Nat.beq f 4 then pl_4 i else bif Nat.beq f 5 then pl_5 i else bif Nat.beq f 6 then pl_6 i else bif Nat.beq f 7 then pl_7 i else bif Nat.beq f 8 then pl_8 i else bif Nat.beq f 9 then pl_9 i else bif Nat.beq f 10 then pl_10 i else bif Nat.beq f 11 then pl_11 i else bif Nat.beq f 14 then pl_14 i else bif Nat.beq f 18 then pl_18 i else bif Nat.beq f 20 then pl_20 i else bif Nat.beq f 24 then pl_24 i else bif Nat.beq f 31 then pl_31 i else bif Nat.beq f 36 then pl_36 i else bif Nat.beq f 37 then pl_37 i else bif Nat.beq f 38 then pl_38 i else bif Nat.beq f 39 then pl_39 i else bif Nat.beq f 40 then pl_40 i else bif Nat.beq f 41 then pl_41 i else bif Nat.beq f 42 then pl_42 i else bif Nat.beq f 45 then pl_45 i else bif Nat.beq f 52 then pl_52 i else bif Nat.beq f 53 then pl_53 i else bif Nat.beq f 63 then pl_63 i else bif Nat.beq f 64 then pl_64 i else bif Nat.beq f 67 then pl_67 i else bif Nat.beq f 68 then pl_68 i else bif Nat.beq f 75 then pl_75 i else bif Nat.beq f 80 then pl_80 i else bif Nat.beq f 83 then pl_83 i else bif Nat.beq f 84 then pl_84 i else bif Nat.beq f 87 then pl_87 i else bif Nat.beq f 89 then pl_89 i else bif Nat.beq f 95 then pl_95 i else bif Nat.beq f 97 then pl_97 i else none
theorem plok_3 : ((Try.prog.funcs[3]?).bind (fun fn => fn.body)).all (plOk pl_3) = true := by kernel_rfl
theorem plok_4 : ((Try.prog.funcs[4]?).bind (fun fn => fn.body)).all (plOk pl_4) = true := by kernel_rfl
theorem plok_5 : ((Try.prog.funcs[5]?).bind (fun fn => fn.body)).all (plOk pl_5) = true := by kernel_rfl
theorem plok_6 : ((Try.prog.funcs[6]?).bind (fun fn => fn.body)).all (plOk pl_6) = true := by kernel_rfl
theorem plok_7 : ((Try.prog.funcs[7]?).bind (fun fn => fn.body)).all (plOk pl_7) = true := by kernel_rfl
theorem plok_8 : ((Try.prog.funcs[8]?).bind (fun fn => fn.body)).all (plOk pl_8) = true := by kernel_rfl
theorem plok_9 : ((Try.prog.funcs[9]?).bind (fun fn => fn.body)).all (plOk pl_9) = true := by kernel_rfl
theorem plok_10 : ((Try.prog.funcs[10]?).bind (fun fn => fn.body)).all (plOk pl_10) = true := by kernel_rfl
theorem plok_11 : ((Try.prog.funcs[11]?).bind (fun fn => fn.body)).all (plOk pl_11) = true := by kernel_rfl
theorem plok_14 : ((Try.prog.funcs[14]?).bind (fun fn => fn.body)).all (plOk pl_14) = true := by kernel_rfl
theorem plok_18 : ((Try.prog.funcs[18]?).bind (fun fn => fn.body)).all (plOk pl_18) = true := by kernel_rfl
theorem plok_20 : ((Try.prog.funcs[20]?).bind (fun fn => fn.body)).all (plOk pl_20) = true := by kernel_rfl
theorem plok_24 : ((Try.prog.funcs[24]?).bind (fun fn => fn.body)).all (plOk pl_24) = true := by kernel_rfl
theorem plok_31 : ((Try.prog.funcs[31]?).bind (fun fn => fn.body)).all (plOk pl_31) = true := by kernel_rfl
theorem plok_36 : ((Try.prog.funcs[36]?).bind (fun fn => fn.body)).all (plOk pl_36) = true := by kernel_rfl
theorem plok_37 : ((Try.prog.funcs[37]?).bind (fun fn => fn.body)).all (plOk pl_37) = true := by kernel_rfl
theorem plok_38 : ((Try.prog.funcs[38]?).bind (fun fn => fn.body)).all (plOk pl_38) = true := by kernel_rfl
theorem plok_39 : ((Try.prog.funcs[39]?).bind (fun fn => fn.body)).all (plOk pl_39) = true := by kernel_rfl
theorem plok_40 : ((Try.prog.funcs[40]?).bind (fun fn => fn.body)).all (plOk pl_40) = true := by kernel_rfl
theorem plok_41 : ((Try.prog.funcs[41]?).bind (fun fn => fn.body)).all (plOk pl_41) = true := by kernel_rfl
theorem plok_42 : ((Try.prog.funcs[42]?).bind (fun fn => fn.body)).all (plOk pl_42) = true := by kernel_rfl
theorem plok_45 : ((Try.prog.funcs[45]?).bind (fun fn => fn.body)).all (plOk pl_45) = true := by kernel_rfl
theorem plok_52 : ((Try.prog.funcs[52]?).bind (fun fn => fn.body)).all (plOk pl_52) = true := by kernel_rfl
theorem plok_53 : ((Try.prog.funcs[53]?).bind (fun fn => fn.body)).all (plOk pl_53) = true := by kernel_rfl
theorem plok_63 : ((Try.prog.funcs[63]?).bind (fun fn => fn.body)).all (plOk pl_63) = true := by kernel_rfl
theorem plok_64 : ((Try.prog.funcs[64]?).bind (fun fn => fn.body)).all (plOk pl_64) = true := by kernel_rfl
theorem plok_67 : ((Try.prog.funcs[67]?).bind (fun fn => fn.body)).all (plOk pl_67) = true := by kernel_rfl
theorem plok_68 : ((Try.prog.funcs[68]?).bind (fun fn => fn.body)).all (plOk pl_68) = true := by kernel_rfl
theorem plok_75 : ((Try.prog.funcs[75]?).bind (fun fn => fn.body)).all (plOk pl_75) = true := by kernel_rfl
theorem plok_80 : ((Try.prog.funcs[80]?).bind (fun fn => fn.body)).all (plOk pl_80) = true := by kernel_rfl
theorem plok_83 : ((Try.prog.funcs[83]?).bind (fun fn => fn.body)).all (plOk pl_83) = true := by kernel_rfl
theorem plok_84 : ((Try.prog.funcs[84]?).bind (fun fn => fn.body)).all (plOk pl_84) = true := by kernel_rfl
theorem plok_87 : ((Try.prog.funcs[87]?).bind (fun fn => fn.body)).all (plOk pl_87) = true := by kernel_rfl
theorem plok_89 : ((Try.prog.funcs[89]?).bind (fun fn => fn.body)).all (plOk pl_89) = true := by kernel_rfl
theorem plok_95 : ((Try.prog.funcs[95]?).bind (fun fn => fn.body)).all (plOk pl_95) = true := by kernel_rfl
theorem plok_97 : ((Try.prog.funcs[97]?).bind (fun fn => fn.body)).all (plOk pl_97) = true := by kernel_rfl

/-- The numbers that cells hold. -/
def decL : List MV → Option (List Int)
  | [] => some []
  | .lit (.int .u64 n) :: l => match decL l with
    | some D => some (n :: D)
    | none => none
  | _ => none
theorem decL_eq : ∀ {l : List MV} {D : List Int}, decL l = some D → l = D.map u64 := by
  intro l
  induction l with
  | nil => intro D h; cases h; rfl
  | cons x l ih =>
    intro D h
    unfold decL at h
    split at h
    · rename_i heq; cases heq
    · rename_i n l' heq
      cases heq
      split at h
      · rename_i D' hD; cases h; rw [ih hD]; rfl
      · cases h
    · cases h
def k_91 (args : List MV) (H : MH) : Option (MV × MH) := match args with
  | [.lit (.int .u64 a), .lit (.int .u64 b), .lit (.int .u64 c)] => bif decide (0 ≤ a) && decide (0 ≤ b) && decide (0 ≤ c) && decide (c ≤ 1) then some (.tup [u64 (add64M a b c).1, u64 (add64M a b c).2], H) else none
  | _ => none
theorem k_91_spec {args : List MV} {H : MH} {r : MV × MH} (h : k_91 args H = some r) : Spec Try.prog 91 args H fun v' H' => v' = r.1 ∧ H' = r.2 := by
  unfold k_91 at h
  split at h
  · rename_i a b c
    rw [Bool.cond_eq_ite] at h
    split at h
    · rename_i hc
      try simp only [Bool.and_eq_true, decide_eq_true_eq] at hc
      cases h
      exact add64_spec hc.1.1.1 hc.1.1.2 ⟨hc.1.2, hc.2⟩ H
    · cases h
  · cases h
def k_98 (args : List MV) (H : MH) : Option (MV × MH) := match args with
  | [.lit (.int .u64 a), .lit (.int .u64 b), .lit (.int .u64 c)] => bif decide (0 ≤ a) && decide (0 ≤ b) && decide (b < 18446744073709551616) && decide (0 ≤ c) && decide (c ≤ 1) then some (.tup [u64 (sub64M a b c).1, u64 (sub64M a b c).2], H) else none
  | _ => none
theorem k_98_spec {args : List MV} {H : MH} {r : MV × MH} (h : k_98 args H = some r) : Spec Try.prog 98 args H fun v' H' => v' = r.1 ∧ H' = r.2 := by
  unfold k_98 at h
  split at h
  · rename_i a b c
    rw [Bool.cond_eq_ite] at h
    split at h
    · rename_i hc
      try simp only [Bool.and_eq_true, decide_eq_true_eq] at hc
      cases h
      exact sub64_spec hc.1.1.1.1 ⟨hc.1.1.1.2, hc.1.1.2⟩ ⟨hc.1.2, hc.2⟩ H
    · cases h
  · cases h
def k_55 (args : List MV) (H : MH) : Option (MV × MH) := match args with
  | [.lit (.int .u64 a), .lit (.int .u64 b)] => bif true then some (.tup [u64 (mulM a b).1, u8 (mulM a b).2], H) else none
  | _ => none
theorem k_55_spec {args : List MV} {H : MH} {r : MV × MH} (h : k_55 args H = some r) : Spec Try.prog 55 args H fun v' H' => v' = r.1 ∧ H' = r.2 := by
  unfold k_55 at h
  split at h
  · rename_i a b
    rw [Bool.cond_eq_ite] at h
    split at h
    · rename_i hc
      try simp only [Bool.and_eq_true, decide_eq_true_eq] at hc
      cases h
      exact mul_spec a b H
    · cases h
  · cases h
def k_84 (args : List MV) (H : MH) : Option (MV × MH) := match args with
  | [.lit (.int .u64 a), .lit (.int .u64 b)] => bif decide (0 ≤ a) && decide (a < 18446744073709551616) && decide (0 ≤ b) && decide (b < 18446744073709551616) then some (.tup [u64 (addM a b).1, u8 (addM a b).2], H) else none
  | _ => none
theorem k_84_spec {args : List MV} {H : MH} {r : MV × MH} (h : k_84 args H = some r) : Spec Try.prog 84 args H fun v' H' => v' = r.1 ∧ H' = r.2 := by
  unfold k_84 at h
  split at h
  · rename_i a b
    rw [Bool.cond_eq_ite] at h
    split at h
    · rename_i hc
      try simp only [Bool.and_eq_true, decide_eq_true_eq] at hc
      cases h
      exact add_spec ⟨hc.1.1.1, hc.1.1.2⟩ ⟨hc.1.2, hc.2⟩ H
    · cases h
  · cases h
def k_27 (args : List MV) (H : MH) : Option (MV × MH) := match args with
  | [.lit (.int .u64 a)] => bif true then some (i64 (kindM a), H) else none
  | _ => none
theorem k_27_spec {args : List MV} {H : MH} {r : MV × MH} (h : k_27 args H = some r) : Spec Try.prog 27 args H fun v' H' => v' = r.1 ∧ H' = r.2 := by
  unfold k_27 at h
  split at h
  · rename_i a
    rw [Bool.cond_eq_ite] at h
    split at h
    · rename_i hc
      try simp only [Bool.and_eq_true, decide_eq_true_eq] at hc
      cases h
      exact kind_spec a H
    · cases h
  · cases h
def k_12 (args : List MV) (H : MH) : Option (MV × MH) := match args with
  | [.lit (.int .u64 a)] => bif true then some (u64 (absM a), H) else none
  | _ => none
theorem k_12_spec {args : List MV} {H : MH} {r : MV × MH} (h : k_12 args H = some r) : Spec Try.prog 12 args H fun v' H' => v' = r.1 ∧ H' = r.2 := by
  unfold k_12 at h
  split at h
  · rename_i a
    rw [Bool.cond_eq_ite] at h
    split at h
    · rename_i hc
      try simp only [Bool.and_eq_true, decide_eq_true_eq] at hc
      cases h
      exact abs_spec a H
    · cases h
  · cases h
def k_29 (args : List MV) (H : MH) : Option (MV × MH) := match args with
  | [.lit (.int .u64 a)] => bif true then some (bl (negM a), H) else none
  | _ => none
theorem k_29_spec {args : List MV} {H : MH} {r : MV × MH} (h : k_29 args H = some r) : Spec Try.prog 29 args H fun v' H' => v' = r.1 ∧ H' = r.2 := by
  unfold k_29 at h
  split at h
  · rename_i a
    rw [Bool.cond_eq_ite] at h
    split at h
    · rename_i hc
      try simp only [Bool.and_eq_true, decide_eq_true_eq] at hc
      cases h
      exact neg_spec a H
    · cases h
  · cases h
def k_26 (args : List MV) (H : MH) : Option (MV × MH) := match args with
  | [.lit (.int .u64 a)] => bif true then some (u64 (flipM a), H) else none
  | _ => none
theorem k_26_spec {args : List MV} {H : MH} {r : MV × MH} (h : k_26 args H = some r) : Spec Try.prog 26 args H fun v' H' => v' = r.1 ∧ H' = r.2 := by
  unfold k_26 at h
  split at h
  · rename_i a
    rw [Bool.cond_eq_ite] at h
    split at h
    · rename_i hc
      try simp only [Bool.and_eq_true, decide_eq_true_eq] at hc
      cases h
      exact flip_spec a H
    · cases h
  · cases h
def k_43 (args : List MV) (H : MH) : Option (MV × MH) := match args with
  | [.lit (.int .u64 a)] => bif true then some (bl (finiteM a), H) else none
  | _ => none
theorem k_43_spec {args : List MV} {H : MH} {r : MV × MH} (h : k_43 args H = some r) : Spec Try.prog 43 args H fun v' H' => v' = r.1 ∧ H' = r.2 := by
  unfold k_43 at h
  split at h
  · rename_i a
    rw [Bool.cond_eq_ite] at h
    split at h
    · rename_i hc
      try simp only [Bool.and_eq_true, decide_eq_true_eq] at hc
      cases h
      exact finite_spec a H
    · cases h
  · cases h
def k_50 (args : List MV) (H : MH) : Option (MV × MH) := match args with
  | [.lit (.int .u64 a)] => bif true then some (bl (signalsM a), H) else none
  | _ => none
theorem k_50_spec {args : List MV} {H : MH} {r : MV × MH} (h : k_50 args H = some r) : Spec Try.prog 50 args H fun v' H' => v' = r.1 ∧ H' = r.2 := by
  unfold k_50 at h
  split at h
  · rename_i a
    rw [Bool.cond_eq_ite] at h
    split at h
    · rename_i hc
      try simp only [Bool.and_eq_true, decide_eq_true_eq] at hc
      cases h
      exact signals_spec a H
    · cases h
  · cases h
def k_44 (args : List MV) (H : MH) : Option (MV × MH) := match args with
  | [.lit (.int .u64 a)] => bif true then some (.tup [u64 (partsM a).1, i64 (partsM a).2], H) else none
  | _ => none
theorem k_44_spec {args : List MV} {H : MH} {r : MV × MH} (h : k_44 args H = some r) : Spec Try.prog 44 args H fun v' H' => v' = r.1 ∧ H' = r.2 := by
  unfold k_44 at h
  split at h
  · rename_i a
    rw [Bool.cond_eq_ite] at h
    split at h
    · rename_i hc
      try simp only [Bool.and_eq_true, decide_eq_true_eq] at hc
      cases h
      exact parts_spec a H
    · cases h
  · cases h
def k_28 (args : List MV) (H : MH) : Option (MV × MH) := match args with
  | [.lit (.int .u64 a), .lit (.int .u64 b)] => bif true then some (u64 (signM a b), H) else none
  | _ => none
theorem k_28_spec {args : List MV} {H : MH} {r : MV × MH} (h : k_28 args H = some r) : Spec Try.prog 28 args H fun v' H' => v' = r.1 ∧ H' = r.2 := by
  unfold k_28 at h
  split at h
  · rename_i a b
    rw [Bool.cond_eq_ite] at h
    split at h
    · rename_i hc
      try simp only [Bool.and_eq_true, decide_eq_true_eq] at hc
      cases h
      exact sign_spec a b H
    · cases h
  · cases h
def k_70 (args : List MV) (H : MH) : Option (MV × MH) := match args with
  | [.lit (.int .u64 a), .lit (.int .u64 b)] => bif true then some (wd (mul64M a b), H) else none
  | _ => none
theorem k_70_spec {args : List MV} {H : MH} {r : MV × MH} (h : k_70 args H = some r) : Spec Try.prog 70 args H fun v' H' => v' = r.1 ∧ H' = r.2 := by
  unfold k_70 at h
  split at h
  · rename_i a b
    rw [Bool.cond_eq_ite] at h
    split at h
    · rename_i hc
      try simp only [Bool.and_eq_true, decide_eq_true_eq] at hc
      cases h
      exact wmul_spec a b H
    · cases h
  · cases h
def k_71 (args : List MV) (H : MH) : Option (MV × MH) := match args with
  | [.agg [.lit (.int .u64 a1), .lit (.int .u64 a2)], .agg [.lit (.int .u64 b1), .lit (.int .u64 b2)]] => bif true then some (i64 (wcmpM (a1, a2) (b1, b2)), H) else none
  | _ => none
theorem k_71_spec {args : List MV} {H : MH} {r : MV × MH} (h : k_71 args H = some r) : Spec Try.prog 71 args H fun v' H' => v' = r.1 ∧ H' = r.2 := by
  unfold k_71 at h
  split at h
  · rename_i a1 a2 b1 b2
    rw [Bool.cond_eq_ite] at h
    split at h
    · rename_i hc
      try simp only [Bool.and_eq_true, decide_eq_true_eq] at hc
      cases h
      exact wcmp_spec (a1, a2) (b1, b2) H
    · cases h
  · cases h
def k_52 (args : List MV) (H : MH) : Option (MV × MH) := match args with
  | [.agg [.lit (.int .u64 a1), .lit (.int .u64 a2)], .lit (.int .i64 b)] => bif true then some (wd (wleftM (a1, a2) b), H) else none
  | _ => none
theorem k_52_spec {args : List MV} {H : MH} {r : MV × MH} (h : k_52 args H = some r) : Spec Try.prog 52 args H fun v' H' => v' = r.1 ∧ H' = r.2 := by
  unfold k_52 at h
  split at h
  · rename_i a1 a2 b
    rw [Bool.cond_eq_ite] at h
    split at h
    · rename_i hc
      try simp only [Bool.and_eq_true, decide_eq_true_eq] at hc
      cases h
      exact wleft_spec (a1, a2) b H
    · cases h
  · cases h
def k_54 (args : List MV) (H : MH) : Option (MV × MH) := match args with
  | [.lit (.bool a), .agg [.lit (.int .u64 b1), .lit (.int .u64 b2)], .lit (.int .i64 c), .lit (.bool d)] => bif decide (0 ≤ b1) && decide (b1 < 18446744073709551616) && decide (0 ≤ b2) && decide (b2 < 18446744073709551616) then some (.tup [u64 (roundM a (b1, b2) c d).1, u8 (roundM a (b1, b2) c d).2], H) else none
  | _ => none
theorem k_54_spec {args : List MV} {H : MH} {r : MV × MH} (h : k_54 args H = some r) : Spec Try.prog 54 args H fun v' H' => v' = r.1 ∧ H' = r.2 := by
  unfold k_54 at h
  split at h
  · rename_i a b1 b2 c d
    rw [Bool.cond_eq_ite] at h
    split at h
    · rename_i hc
      try simp only [Bool.and_eq_true, decide_eq_true_eq] at hc
      cases h
      exact round_spec a ⟨⟨hc.1.1.1, hc.1.1.2⟩, ⟨hc.1.2, hc.2⟩⟩ c d H
    · cases h
  · cases h
def k_51 (args : List MV) (H : MH) : Option (MV × MH) := match args with
  | [.lit (.int .u64 a)] => bif decide (0 ≤ a) && decide (a < 18446744073709551616) then some (i64 (lenM a), H) else none
  | _ => none
theorem k_51_spec {args : List MV} {H : MH} {r : MV × MH} (h : k_51 args H = some r) : Spec Try.prog 51 args H fun v' H' => v' = r.1 ∧ H' = r.2 := by
  unfold k_51 at h
  split at h
  · rename_i a
    rw [Bool.cond_eq_ite] at h
    split at h
    · rename_i hc
      try simp only [Bool.and_eq_true, decide_eq_true_eq] at hc
      cases h
      exact len_spec hc H
    · cases h
  · cases h
def k_13 (args : List MV) (H : MH) : Option (MV × MH) := match args with
  | [.agg [.lit (.int .i64 r), .lit (.int .i64 c), .lit (.int .i64 s), .slice p 0 n z 1], .lit (.int .i64 i), .lit (.int .i64 k)] => match hget H p with
    | some ob => match decL ob.cells with
      | some D => bif decide (s = c) && decide (0 ≤ r) && decide (r ≤ 4096) && decide (0 ≤ c) && decide (c ≤ 4096) && decide (D.length = (r * c).toNat) && decide (D.length = n) then some (u64 (atM r c c D i k), H) else none
      | none => none
    | none => none
  | _ => none
theorem k_13_spec {args : List MV} {H : MH} {u : MV × MH} (h : k_13 args H = some u) : Spec Try.prog 13 args H fun v' H' => v' = u.1 ∧ H' = u.2 := by
  unfold k_13 at h
  split at h
  · rename_i r c s p n z i k
    split at h
    · rename_i ob hob
      split at h
      · rename_i D hD
        rw [Bool.cond_eq_ite] at h
        split at h
        · rename_i hc
          simp only [Bool.and_eq_true, decide_eq_true_eq] at hc
          have hs := hc.1.1.1.1.1.1
          subst hs
          obtain ⟨cells, rw⟩ := ob
          have hcell := decL_eq hD
          simp only at hcell
          subst hcell
          have hp := hob
          cases h
          exact at_ok ⟨hc.1.1.1.1.1.2, hc.1.1.1.1.2, hc.1.1.1.2, hc.1.1.2, hc.1.2⟩ i k hp hc.2
        · cases h
      · cases h
    · cases h
  · cases h
def k_17 (args : List MV) (H : MH) : Option (MV × MH) := match args with
  | [.agg [.lit (.int .i64 r), .lit (.int .i64 c), .lit (.int .i64 s), .slice p 0 n z 1], .lit (.int .i64 i), .lit (.int .i64 k), .lit (.int .u64 b)] => match hget H p with
    | some ob => match decL ob.cells with
      | some D => bif decide (s = c) && decide (0 ≤ r) && decide (r ≤ 4096) && decide (0 ≤ c) && decide (c ≤ 4096) && decide (D.length = (r * c).toNat) && decide (D.length = n) then bif ob.rw then some (.tup [], H.set p (some ⟨(setM r c c D i k b).map u64, true⟩)) else none else none
      | none => none
    | none => none
  | _ => none
theorem k_17_spec {args : List MV} {H : MH} {u : MV × MH} (h : k_17 args H = some u) : Spec Try.prog 17 args H fun v' H' => v' = u.1 ∧ H' = u.2 := by
  unfold k_17 at h
  split at h
  · rename_i r c s p n z i k b
    split at h
    · rename_i ob hob
      split at h
      · rename_i D hD
        rw [Bool.cond_eq_ite] at h
        split at h
        · rename_i hc
          simp only [Bool.and_eq_true, decide_eq_true_eq] at hc
          have hs := hc.1.1.1.1.1.1
          subst hs
          obtain ⟨cells, rw⟩ := ob
          have hcell := decL_eq hD
          simp only at hcell
          subst hcell
          cases rw with
          | false => cases h
          | true =>
            have hp := hob
            cases h
            exact set_ok ⟨hc.1.1.1.1.1.2, hc.1.1.1.1.2, hc.1.1.1.2, hc.1.1.2, hc.1.2⟩ i k b hp hc.2
        · cases h
      · cases h
    · cases h
  · cases h
def kn (f : FuncId) (args : List MV) (H : MH) : Option (MV × MH) := bif Nat.beq f 91 then k_91 args H else bif Nat.beq f 98 then k_98 args H else bif Nat.beq f 55 then k_55 args H else bif Nat.beq f 84 then k_84 args H else bif Nat.beq f 27 then k_27 args H else bif Nat.beq f 12 then k_12 args H else bif Nat.beq f 29 then k_29 args H else bif Nat.beq f 26 then k_26 args H else bif Nat.beq f 43 then k_43 args H else bif Nat.beq f 50 then k_50 args H else bif Nat.beq f 44 then k_44 args H else bif Nat.beq f 28 then k_28 args H else bif Nat.beq f 70 then k_70 args H else bif Nat.beq f 71 then k_71 args H else bif Nat.beq f 52 then k_52 args H else bif Nat.beq f 54 then k_54 args H else bif Nat.beq f 51 then k_51 args H else bif Nat.beq f 13 then k_13 args H else bif Nat.beq f 17 then k_17 args H else none
theorem kn_spec : ∀ f args H r, kn f args H = some r → Spec Try.prog f args H fun v' H' => v' = r.1 ∧ H' = r.2 := by
  intro f args H r h
  unfold kn at h
  rw [beq_dec', Bool.cond_decide] at h
  split at h
  · rename_i hf
    subst hf
    exact k_91_spec h
  rw [beq_dec', Bool.cond_decide] at h
  split at h
  · rename_i hf
    subst hf
    exact k_98_spec h
  rw [beq_dec', Bool.cond_decide] at h
  split at h
  · rename_i hf
    subst hf
    exact k_55_spec h
  rw [beq_dec', Bool.cond_decide] at h
  split at h
  · rename_i hf
    subst hf
    exact k_84_spec h
  rw [beq_dec', Bool.cond_decide] at h
  split at h
  · rename_i hf
    subst hf
    exact k_27_spec h
  rw [beq_dec', Bool.cond_decide] at h
  split at h
  · rename_i hf
    subst hf
    exact k_12_spec h
  rw [beq_dec', Bool.cond_decide] at h
  split at h
  · rename_i hf
    subst hf
    exact k_29_spec h
  rw [beq_dec', Bool.cond_decide] at h
  split at h
  · rename_i hf
    subst hf
    exact k_26_spec h
  rw [beq_dec', Bool.cond_decide] at h
  split at h
  · rename_i hf
    subst hf
    exact k_43_spec h
  rw [beq_dec', Bool.cond_decide] at h
  split at h
  · rename_i hf
    subst hf
    exact k_50_spec h
  rw [beq_dec', Bool.cond_decide] at h
  split at h
  · rename_i hf
    subst hf
    exact k_44_spec h
  rw [beq_dec', Bool.cond_decide] at h
  split at h
  · rename_i hf
    subst hf
    exact k_28_spec h
  rw [beq_dec', Bool.cond_decide] at h
  split at h
  · rename_i hf
    subst hf
    exact k_70_spec h
  rw [beq_dec', Bool.cond_decide] at h
  split at h
  · rename_i hf
    subst hf
    exact k_71_spec h
  rw [beq_dec', Bool.cond_decide] at h
  split at h
  · rename_i hf
    subst hf
    exact k_52_spec h
  rw [beq_dec', Bool.cond_decide] at h
  split at h
  · rename_i hf
    subst hf
    exact k_54_spec h
  rw [beq_dec', Bool.cond_decide] at h
  split at h
  · rename_i hf
    subst hf
    exact k_51_spec h
  rw [beq_dec', Bool.cond_decide] at h
  split at h
  · rename_i hf
    subst hf
    exact k_13_spec h
  rw [beq_dec', Bool.cond_decide] at h
  split at h
  · rename_i hf
    subst hf
    exact k_17_spec h
  cases h
def roF (f : FuncId) : Bool := (match ((bif Nat.blt f 45 then (bif Nat.blt f 23 then (bif Nat.blt f 16 then (bif Nat.blt f 10 then (bif Nat.beq f 8 then some () else none) else (bif Nat.blt f 11 then (bif Nat.beq f 10 then some () else none) else (bif Nat.beq f 11 then some () else none))) else (bif Nat.blt f 18 then (bif Nat.blt f 17 then (bif Nat.beq f 16 then some () else none) else (bif Nat.beq f 17 then some () else none)) else (bif Nat.blt f 20 then (bif Nat.beq f 18 then some () else none) else (bif Nat.beq f 20 then some () else none)))) else (bif Nat.blt f 36 then (bif Nat.blt f 33 then (bif Nat.blt f 25 then (bif Nat.beq f 23 then some () else none) else (bif Nat.beq f 25 then some () else none)) else (bif Nat.blt f 35 then (bif Nat.beq f 33 then some () else none) else (bif Nat.beq f 35 then some () else none))) else (bif Nat.blt f 39 then (bif Nat.blt f 37 then (bif Nat.beq f 36 then some () else none) else (bif Nat.beq f 37 then some () else none)) else (bif Nat.blt f 42 then (bif Nat.beq f 39 then some () else none) else (bif Nat.beq f 42 then some () else none))))) else (bif Nat.blt f 63 then (bif Nat.blt f 58 then (bif Nat.blt f 49 then (bif Nat.blt f 46 then (bif Nat.beq f 45 then some () else none) else (bif Nat.beq f 46 then some () else none)) else (bif Nat.blt f 57 then (bif Nat.beq f 49 then some () else none) else (bif Nat.beq f 57 then some () else none))) else (bif Nat.blt f 60 then (bif Nat.blt f 59 then (bif Nat.beq f 58 then some () else none) else (bif Nat.beq f 59 then some () else none)) else (bif Nat.blt f 61 then (bif Nat.beq f 60 then some () else none) else (bif Nat.beq f 61 then some () else none)))) else (bif Nat.blt f 83 then (bif Nat.blt f 65 then (bif Nat.blt f 64 then (bif Nat.beq f 63 then some () else none) else (bif Nat.beq f 64 then some () else none)) else (bif Nat.blt f 68 then (bif Nat.beq f 65 then some () else none) else (bif Nat.beq f 68 then some () else none))) else (bif Nat.blt f 89 then (bif Nat.blt f 86 then (bif Nat.beq f 83 then some () else none) else (bif Nat.beq f 86 then some () else none)) else (bif Nat.blt f 96 then (bif Nat.beq f 89 then some () else none) else (bif Nat.beq f 96 then some () else none)))))) : Option Unit) with | some _ => false | none => true)
def iso (f : FuncId) : Bool := !(Nat.beq f 16) && !(Nat.beq f 25) && !(Nat.beq f 57) && !(Nat.beq f 45) && !(Nat.beq f 86)
theorem fok : FOk Try.prog pls := by
  have h : Try.prog.funcs.all (fun fn => !(fn.name == "runtime.NumGoroutine") && (match fn.body with | some c => codeOk fn.ntmps c | none => true)) = true := by decide +kernel
  intro f fn c hf hb
  have := Array.all_eq_true_iff_forall_mem.1 h fn (Array.mem_of_getElem? hf)
  simp only [Bool.and_eq_true, hb] at this
  refine ⟨by simpa using this.1, this.2, ?_⟩
  by_cases h3 : f = 3
  · subst h3
    have h := plok_3
    rw [hf, Option.bind_some, hb, Option.all_some] at h
    have e : pls 3 = pl_3 := by funext i; rfl
    rw [e]; exact h
  by_cases h4 : f = 4
  · subst h4
    have h := plok_4
    rw [hf, Option.bind_some, hb, Option.all_some] at h
    have e : pls 4 = pl_4 := by funext i; rfl
    rw [e]; exact h
  by_cases h5 : f = 5
  · subst h5
    have h := plok_5
    rw [hf, Option.bind_some, hb, Option.all_some] at h
    have e : pls 5 = pl_5 := by funext i; rfl
    rw [e]; exact h
  by_cases h6 : f = 6
  · subst h6
    have h := plok_6
    rw [hf, Option.bind_some, hb, Option.all_some] at h
    have e : pls 6 = pl_6 := by funext i; rfl
    rw [e]; exact h
  by_cases h7 : f = 7
  · subst h7
    have h := plok_7
    rw [hf, Option.bind_some, hb, Option.all_some] at h
    have e : pls 7 = pl_7 := by funext i; rfl
    rw [e]; exact h
  by_cases h8 : f = 8
  · subst h8
    have h := plok_8
    rw [hf, Option.bind_some, hb, Option.all_some] at h
    have e : pls 8 = pl_8 := by funext i; rfl
    rw [e]; exact h
  by_cases h9 : f = 9
  · subst h9
    have h := plok_9
    rw [hf, Option.bind_some, hb, Option.all_some] at h
    have e : pls 9 = pl_9 := by funext i; rfl
    rw [e]; exact h
  by_cases h10 : f = 10
  · subst h10
    have h := plok_10
    rw [hf, Option.bind_some, hb, Option.all_some] at h
    have e : pls 10 = pl_10 := by funext i; rfl
    rw [e]; exact h
  by_cases h11 : f = 11
  · subst h11
    have h := plok_11
    rw [hf, Option.bind_some, hb, Option.all_some] at h
    have e : pls 11 = pl_11 := by funext i; rfl
    rw [e]; exact h
  by_cases h14 : f = 14
  · subst h14
    have h := plok_14
    rw [hf, Option.bind_some, hb, Option.all_some] at h
    have e : pls 14 = pl_14 := by funext i; rfl
    rw [e]; exact h
  by_cases h18 : f = 18
  · subst h18
    have h := plok_18
    rw [hf, Option.bind_some, hb, Option.all_some] at h
    have e : pls 18 = pl_18 := by funext i; rfl
    rw [e]; exact h
  by_cases h20 : f = 20
  · subst h20
    have h := plok_20
    rw [hf, Option.bind_some, hb, Option.all_some] at h
    have e : pls 20 = pl_20 := by funext i; rfl
    rw [e]; exact h
  by_cases h24 : f = 24
  · subst h24
    have h := plok_24
    rw [hf, Option.bind_some, hb, Option.all_some] at h
    have e : pls 24 = pl_24 := by funext i; rfl
    rw [e]; exact h
  by_cases h31 : f = 31
  · subst h31
    have h := plok_31
    rw [hf, Option.bind_some, hb, Option.all_some] at h
    have e : pls 31 = pl_31 := by funext i; rfl
    rw [e]; exact h
  by_cases h36 : f = 36
  · subst h36
    have h := plok_36
    rw [hf, Option.bind_some, hb, Option.all_some] at h
    have e : pls 36 = pl_36 := by funext i; rfl
    rw [e]; exact h
  by_cases h37 : f = 37
  · subst h37
    have h := plok_37
    rw [hf, Option.bind_some, hb, Option.all_some] at h
    have e : pls 37 = pl_37 := by funext i; rfl
    rw [e]; exact h
  by_cases h38 : f = 38
  · subst h38
    have h := plok_38
    rw [hf, Option.bind_some, hb, Option.all_some] at h
    have e : pls 38 = pl_38 := by funext i; rfl
    rw [e]; exact h
  by_cases h39 : f = 39
  · subst h39
    have h := plok_39
    rw [hf, Option.bind_some, hb, Option.all_some] at h
    have e : pls 39 = pl_39 := by funext i; rfl
    rw [e]; exact h
  by_cases h40 : f = 40
  · subst h40
    have h := plok_40
    rw [hf, Option.bind_some, hb, Option.all_some] at h
    have e : pls 40 = pl_40 := by funext i; rfl
    rw [e]; exact h
  by_cases h41 : f = 41
  · subst h41
    have h := plok_41
    rw [hf, Option.bind_some, hb, Option.all_some] at h
    have e : pls 41 = pl_41 := by funext i; rfl
    rw [e]; exact h
  by_cases h42 : f = 42
  · subst h42
    have h := plok_42
    rw [hf, Option.bind_some, hb, Option.all_some] at h
    have e : pls 42 = pl_42 := by funext i; rfl
    rw [e]; exact h
  by_cases h45 : f = 45
  · subst h45
    have h := plok_45
    rw [hf, Option.bind_some, hb, Option.all_some] at h
    have e : pls 45 = pl_45 := by funext i; rfl
    rw [e]; exact h
  by_cases h52 : f = 52
  · subst h52
    have h := plok_52
    rw [hf, Option.bind_some, hb, Option.all_some] at h
    have e : pls 52 = pl_52 := by funext i; rfl
    rw [e]; exact h
  by_cases h53 : f = 53
  · subst h53
    have h := plok_53
    rw [hf, Option.bind_some, hb, Option.all_some] at h
    have e : pls 53 = pl_53 := by funext i; rfl
    rw [e]; exact h
  by_cases h63 : f = 63
  · subst h63
    have h := plok_63
    rw [hf, Option.bind_some, hb, Option.all_some] at h
    have e : pls 63 = pl_63 := by funext i; rfl
    rw [e]; exact h
  by_cases h64 : f = 64
  · subst h64
    have h := plok_64
    rw [hf, Option.bind_some, hb, Option.all_some] at h
    have e : pls 64 = pl_64 := by funext i; rfl
    rw [e]; exact h
  by_cases h67 : f = 67
  · subst h67
    have h := plok_67
    rw [hf, Option.bind_some, hb, Option.all_some] at h
    have e : pls 67 = pl_67 := by funext i; rfl
    rw [e]; exact h
  by_cases h68 : f = 68
  · subst h68
    have h := plok_68
    rw [hf, Option.bind_some, hb, Option.all_some] at h
    have e : pls 68 = pl_68 := by funext i; rfl
    rw [e]; exact h
  by_cases h75 : f = 75
  · subst h75
    have h := plok_75
    rw [hf, Option.bind_some, hb, Option.all_some] at h
    have e : pls 75 = pl_75 := by funext i; rfl
    rw [e]; exact h
  by_cases h80 : f = 80
  · subst h80
    have h := plok_80
    rw [hf, Option.bind_some, hb, Option.all_some] at h
    have e : pls 80 = pl_80 := by funext i; rfl
    rw [e]; exact h
  by_cases h83 : f = 83
  · subst h83
    have h := plok_83
    rw [hf, Option.bind_some, hb, Option.all_some] at h
    have e : pls 83 = pl_83 := by funext i; rfl
    rw [e]; exact h
  by_cases h84 : f = 84
  · subst h84
    have h := plok_84
    rw [hf, Option.bind_some, hb, Option.all_some] at h
    have e : pls 84 = pl_84 := by funext i; rfl
    rw [e]; exact h
  by_cases h87 : f = 87
  · subst h87
    have h := plok_87
    rw [hf, Option.bind_some, hb, Option.all_some] at h
    have e : pls 87 = pl_87 := by funext i; rfl
    rw [e]; exact h
  by_cases h89 : f = 89
  · subst h89
    have h := plok_89
    rw [hf, Option.bind_some, hb, Option.all_some] at h
    have e : pls 89 = pl_89 := by funext i; rfl
    rw [e]; exact h
  by_cases h95 : f = 95
  · subst h95
    have h := plok_95
    rw [hf, Option.bind_some, hb, Option.all_some] at h
    have e : pls 95 = pl_95 := by funext i; rfl
    rw [e]; exact h
  by_cases h97 : f = 97
  · subst h97
    have h := plok_97
    rw [hf, Option.bind_some, hb, Option.all_some] at h
    have e : pls 97 = pl_97 := by funext i; rfl
    rw [e]; exact h
  exact plOk_none (fun i => by simp only [pls, beq_dec', h3, h4, h5, h6, h7, h8, h9, h10, h11, h14, h18, h20, h24, h31, h36, h37, h38, h39, h40, h41, h42, h45, h52, h53, h63, h64, h67, h68, h75, h80, h83, h84, h87, h89, h95, h97, decide_false, cond_false]) c
theorem runs {f : FuncId} {args : List MV} {r : MV} (N n : Nat) (hcl : clBs args = true) (hcr : clB r = true) (h : ∀ σ, (match callE Try.prog pls kn iso roF N n f args [] σ 0 with | some ((v, _), _) => eqB v r | none => false) = true) (H : MH) :
    Spec Try.prog f args H fun v H' => v = r ∧ H' = H := run_bool follows pls fok N n kn_spec iso roF hcl hcr h H
end Go.Proofs.Ytamoljalficfgaa.M
