/- What a run by the kernel needs of this seat. -/
import Derived.Test.YtaojabgaebbckaaGreatDoorM19
import Derived.Test.YtaojabgaebbckaaGreatDoorC11
set_option linter.unusedSimpArgs false
set_option linter.unusedVariables false
set_option maxRecDepth 10000
namespace Go.Proofs.YtaojabgaebbckaaGreatDoor.M
open Go Go.Proofs
def pl_4 (i : Nat) : Option (List (Nat × List Nat) × List Nat) := (bif Nat.beq i 19 then some ([(0, []), (1, []), (2, []), (3, []), (4, []), (5, []), (6, []), (7, []), (8, []), (9, []), (10, []), (11, []), (12, []), (13, []), (14, []), (15, []), (16, []), (17, []), (18, []), (19, []), (20, []), (21, [])], []) else none)
def pl_5 (i : Nat) : Option (List (Nat × List Nat) × List Nat) := (bif Nat.blt i 5 then (bif Nat.beq i 3 then some ([(0, []), (1, [0]), (2, [])], [0]) else none) else (bif Nat.beq i 5 then some ([(0, []), (1, []), (2, []), (3, []), (4, []), (5, []), (6, []), (7, []), (8, []), (9, []), (10, []), (11, []), (12, []), (13, []), (14, []), (15, []), (16, []), (17, []), (18, []), (19, []), (20, []), (21, []), (22, []), (23, []), (24, []), (25, []), (26, []), (27, []), (28, []), (29, []), (30, []), (31, []), (32, []), (33, []), (34, []), (35, []), (36, []), (37, []), (38, []), (39, []), (40, []), (41, [37, 40]), (42, []), (43, []), (44, [])], [37, 40]) else none))
def pl_6 (i : Nat) : Option (List (Nat × List Nat) × List Nat) := (bif Nat.beq i 5 then some ([(0, []), (1, []), (2, []), (3, []), (4, [])], []) else none)
def pl_9 (i : Nat) : Option (List (Nat × List Nat) × List Nat) := (bif Nat.blt i 33 then (bif Nat.beq i 7 then some ([(0, []), (1, []), (2, []), (3, []), (4, []), (5, []), (6, []), (7, [])], []) else none) else (bif Nat.beq i 33 then some ([(0, []), (1, []), (2, [1]), (3, []), (4, [])], [1]) else none))
def pl_10 (i : Nat) : Option (List (Nat × List Nat) × List Nat) := (bif Nat.beq i 6 then some ([(0, []), (1, []), (2, []), (3, []), (4, []), (5, []), (6, []), (7, []), (8, []), (9, []), (10, []), (11, [])], []) else none)
def pl_16 (i : Nat) : Option (List (Nat × List Nat) × List Nat) := (bif Nat.blt i 23 then (bif Nat.blt i 5 then (bif Nat.beq i 2 then some ([(0, []), (2, []), (3, []), (4, []), (5, []), (7, []), (1, [3, 5, 7]), (6, []), (8, [])], [3, 5, 7]) else none) else (bif Nat.beq i 5 then some ([(0, []), (1, []), (2, []), (3, []), (4, []), (5, []), (6, [3]), (7, [])], [3]) else none)) else (bif Nat.blt i 32 then (bif Nat.beq i 23 then some ([(0, []), (1, []), (2, []), (3, []), (4, [0, 1]), (5, [1]), (6, []), (7, []), (8, []), (9, []), (10, [])], [0, 1]) else none) else (bif Nat.beq i 32 then some ([(0, []), (1, []), (2, []), (3, [1]), (4, []), (5, [])], [1]) else none)))
def pl_22 (i : Nat) : Option (List (Nat × List Nat) × List Nat) := (bif Nat.beq i 8 then some ([(0, []), (1, []), (2, []), (3, []), (4, []), (5, []), (6, [0]), (7, [])], [0]) else none)
def pl_24 (i : Nat) : Option (List (Nat × List Nat) × List Nat) := (bif Nat.blt i 6 then (bif Nat.beq i 2 then some ([(0, []), (1, []), (2, []), (3, []), (4, []), (5, []), (6, []), (7, []), (8, []), (9, []), (10, []), (11, []), (12, []), (13, []), (14, []), (15, []), (16, []), (17, []), (18, []), (19, []), (20, []), (21, []), (22, []), (23, []), (24, []), (25, []), (26, []), (27, [])], []) else none) else (bif Nat.blt i 13 then (bif Nat.beq i 6 then some ([(0, []), (1, []), (2, []), (4, []), (5, []), (6, []), (3, [4]), (7, []), (8, []), (9, [])], [4]) else none) else (bif Nat.beq i 13 then some ([(0, []), (1, []), (2, []), (4, []), (5, []), (6, []), (3, [4]), (7, []), (8, []), (9, [])], [4]) else none)))
def pl_25 (i : Nat) : Option (List (Nat × List Nat) × List Nat) := (bif Nat.blt i 11 then (bif Nat.beq i 7 then some ([(0, []), (1, []), (2, []), (3, []), (7, []), (8, []), (9, []), (10, []), (4, [8]), (5, [8]), (6, [8]), (11, []), (12, []), (13, []), (14, []), (15, [])], [8]) else none) else (bif Nat.beq i 11 then some ([(0, []), (1, []), (2, []), (3, []), (4, []), (5, []), (6, []), (7, []), (8, []), (9, []), (10, []), (11, []), (12, []), (13, []), (14, []), (15, []), (16, []), (17, []), (18, []), (19, [])], []) else none))
def pl_28 (i : Nat) : Option (List (Nat × List Nat) × List Nat) := (bif Nat.blt i 27 then (bif Nat.beq i 18 then some ([(0, []), (1, []), (2, []), (3, []), (4, [1]), (5, [])], [1]) else none) else (bif Nat.beq i 27 then some ([(0, []), (1, []), (2, []), (3, [1]), (4, []), (5, [])], [1]) else none))
def pl_30 (i : Nat) : Option (List (Nat × List Nat) × List Nat) := (bif Nat.beq i 11 then some ([(0, []), (1, []), (2, []), (4, []), (5, []), (6, []), (7, []), (9, []), (10, []), (11, []), (12, []), (14, []), (15, []), (16, []), (17, []), (18, []), (25, []), (3, [4, 9, 14, 25]), (8, [9, 14, 25]), (13, [14, 25]), (19, [25]), (20, []), (21, [25]), (22, []), (23, []), (24, []), (26, []), (27, [])], [4, 9, 14, 25]) else none)
def pl_31 (i : Nat) : Option (List (Nat × List Nat) × List Nat) := (bif Nat.beq i 5 then some ([(0, []), (2, []), (5, []), (1, [2]), (3, []), (4, []), (6, []), (7, [])], [2]) else none)
def pl_32 (i : Nat) : Option (List (Nat × List Nat) × List Nat) := (bif Nat.blt i 21 then (bif Nat.blt i 20 then (bif Nat.beq i 6 then some ([(0, []), (2, []), (1, [2]), (3, []), (4, []), (5, [])], [2]) else none) else (bif Nat.beq i 20 then some ([(0, []), (1, []), (2, []), (3, []), (4, [1]), (5, []), (6, []), (7, [])], [1]) else none)) else (bif Nat.blt i 24 then (bif Nat.beq i 21 then some ([(0, []), (1, []), (2, []), (3, []), (4, [2]), (5, [])], [2]) else none) else (bif Nat.beq i 24 then some ([(0, []), (1, []), (2, []), (3, [1]), (4, []), (5, []), (6, [])], [1]) else none)))
def pl_34 (i : Nat) : Option (List (Nat × List Nat) × List Nat) := (bif Nat.beq i 9 then some ([(0, []), (1, []), (2, []), (4, []), (5, []), (6, []), (7, []), (9, []), (10, []), (11, []), (12, []), (14, []), (15, []), (16, []), (17, []), (18, []), (21, []), (3, [4, 9, 14, 21]), (8, [9, 14, 21]), (13, [14, 21]), (19, [21]), (20, []), (22, [])], [4, 9, 14, 21]) else none)
def pl_35 (i : Nat) : Option (List (Nat × List Nat) × List Nat) := (bif Nat.blt i 25 then (bif Nat.beq i 23 then some ([(0, []), (1, []), (2, []), (5, []), (6, []), (3, [0, 5, 6]), (4, [5, 6]), (7, []), (8, []), (9, [])], [0, 5, 6]) else none) else (bif Nat.beq i 25 then some ([(0, []), (1, []), (2, []), (3, [0]), (4, []), (5, [])], [0]) else none))
def pl_52 (i : Nat) : Option (List (Nat × List Nat) × List Nat) := (bif Nat.beq i 24 then some ([(0, []), (1, []), (2, []), (3, [1]), (4, []), (5, []), (6, [])], [1]) else none)
def pl_53 (i : Nat) : Option (List (Nat × List Nat) × List Nat) := (bif Nat.beq i 3 then some ([(0, []), (1, []), (2, []), (3, []), (4, []), (7, []), (8, []), (9, []), (5, [7]), (6, [7]), (10, []), (11, []), (12, []), (13, [])], [7]) else none)
def pl_54 (i : Nat) : Option (List (Nat × List Nat) × List Nat) := (bif Nat.blt i 5 then (bif Nat.blt i 3 then (bif Nat.beq i 0 then some ([(0, []), (1, []), (2, []), (3, []), (4, []), (5, []), (7, []), (8, []), (9, []), (10, []), (11, []), (12, []), (13, []), (15, []), (16, []), (17, []), (18, []), (19, []), (20, []), (21, []), (23, []), (24, []), (25, []), (26, []), (27, []), (28, []), (29, []), (30, []), (33, []), (6, [10, 18, 26, 33]), (14, [18, 26, 33]), (22, [26, 33]), (31, [33]), (32, []), (34, [])], [10, 18, 26, 33]) else none) else (bif Nat.blt i 4 then (bif Nat.beq i 3 then some ([(0, []), (1, []), (2, []), (3, []), (4, []), (5, []), (6, []), (7, []), (8, []), (9, []), (10, [])], []) else none) else (bif Nat.beq i 4 then some ([(0, []), (1, []), (2, []), (3, []), (4, []), (5, []), (6, []), (7, []), (8, [])], []) else none))) else (bif Nat.blt i 6 then (bif Nat.beq i 5 then some ([(0, []), (1, []), (2, []), (3, []), (4, []), (5, []), (6, []), (7, []), (8, []), (9, [])], []) else none) else (bif Nat.blt i 7 then (bif Nat.beq i 6 then some ([(0, []), (1, []), (2, []), (3, []), (4, []), (5, []), (6, []), (7, []), (8, []), (9, [])], []) else none) else (bif Nat.beq i 7 then some ([(0, []), (1, []), (2, []), (3, []), (4, []), (5, []), (6, []), (7, []), (8, []), (9, []), (10, [])], []) else none))))
def pl_56 (i : Nat) : Option (List (Nat × List Nat) × List Nat) := (bif Nat.blt i 3 then (bif Nat.beq i 2 then some ([(0, []), (1, []), (2, []), (3, []), (4, []), (6, []), (7, []), (8, []), (9, []), (10, []), (5, [6]), (11, []), (12, []), (13, [])], [6]) else none) else (bif Nat.beq i 3 then some ([(0, []), (1, []), (2, []), (3, []), (4, []), (6, []), (7, []), (8, []), (9, []), (10, []), (5, [6]), (11, []), (12, []), (13, [])], [6]) else none))
def pl_57 (i : Nat) : Option (List (Nat × List Nat) × List Nat) := (bif Nat.blt i 3 then (bif Nat.beq i 2 then some ([(0, []), (1, []), (2, []), (3, []), (4, []), (7, []), (8, []), (9, []), (10, []), (11, []), (5, [7]), (6, [7]), (12, []), (13, []), (14, []), (15, [])], [7]) else none) else (bif Nat.beq i 3 then some ([(0, []), (2, []), (3, []), (4, []), (5, []), (6, []), (1, [2]), (7, []), (8, []), (9, [])], [2]) else none))
def pl_58 (i : Nat) : Option (List (Nat × List Nat) × List Nat) := (bif Nat.blt i 7 then (bif Nat.blt i 6 then (bif Nat.beq i 5 then some ([(0, []), (1, []), (2, []), (4, []), (5, []), (6, []), (7, []), (9, []), (10, []), (11, []), (12, []), (3, [4, 9]), (8, [9]), (13, []), (14, []), (15, []), (16, [])], [4, 9]) else none) else (bif Nat.beq i 6 then some ([(0, []), (1, []), (2, []), (3, []), (6, []), (7, []), (9, []), (10, []), (4, [7]), (5, [7]), (8, []), (11, []), (12, []), (13, [])], [7]) else none)) else (bif Nat.blt i 9 then (bif Nat.beq i 7 then some ([(0, []), (1, []), (2, []), (3, []), (4, []), (5, []), (6, []), (9, []), (10, []), (7, [10]), (8, [10]), (11, []), (12, []), (13, [])], [10]) else none) else (bif Nat.blt i 29 then (bif Nat.beq i 9 then some ([(0, []), (2, []), (1, [2]), (3, []), (4, []), (5, [])], [2]) else none) else (bif Nat.beq i 29 then some ([(0, []), (1, []), (2, [1]), (3, []), (4, [])], [1]) else none))))
def pl_59 (i : Nat) : Option (List (Nat × List Nat) × List Nat) := (bif Nat.beq i 7 then some ([(0, []), (1, []), (2, []), (3, []), (4, []), (5, []), (6, []), (10, []), (11, []), (7, [1, 5, 11]), (8, []), (9, []), (12, [11]), (13, [])], [1, 5, 11]) else none)
def pl_62 (i : Nat) : Option (List (Nat × List Nat) × List Nat) := (bif Nat.beq i 1 then some ([(0, []), (2, []), (1, [2]), (3, []), (4, []), (5, [])], [2]) else none)
def pl_64 (i : Nat) : Option (List (Nat × List Nat) × List Nat) := (bif Nat.beq i 3 then some ([(0, []), (1, []), (2, []), (3, []), (4, []), (5, []), (6, []), (7, []), (8, []), (9, []), (10, []), (11, []), (12, []), (13, []), (15, []), (16, []), (14, [16]), (17, []), (18, []), (19, []), (20, [])], [16]) else none)
def pl_66 (i : Nat) : Option (List (Nat × List Nat) × List Nat) := (bif Nat.blt i 25 then (bif Nat.beq i 19 then some ([(0, []), (1, []), (2, []), (3, []), (4, []), (5, []), (7, []), (6, [1]), (8, []), (9, [])], [1]) else none) else (bif Nat.beq i 25 then some ([(0, []), (1, []), (2, []), (3, []), (4, []), (5, []), (6, [])], []) else none))
def pl_68 (i : Nat) : Option (List (Nat × List Nat) × List Nat) := (bif Nat.beq i 1 then some ([(0, []), (1, []), (2, [0]), (3, []), (4, [])], [0]) else none)
def pl_69 (i : Nat) : Option (List (Nat × List Nat) × List Nat) := (bif Nat.beq i 8 then some ([(0, []), (1, []), (3, []), (2, [3]), (4, []), (5, [])], [3]) else none)
def pl_71 (i : Nat) : Option (List (Nat × List Nat) × List Nat) := (bif Nat.blt i 31 then (bif Nat.beq i 25 then some ([(0, []), (2, []), (3, []), (4, []), (5, []), (1, [2]), (6, []), (7, []), (8, []), (9, []), (10, [])], [2]) else none) else (bif Nat.beq i 31 then some ([(0, []), (2, []), (3, []), (4, []), (5, []), (1, [2]), (6, []), (7, []), (8, []), (9, []), (10, [])], [2]) else none))
def pl_74 (i : Nat) : Option (List (Nat × List Nat) × List Nat) := (bif Nat.beq i 7 then some ([(0, []), (1, []), (2, []), (3, []), (4, []), (5, []), (6, []), (7, []), (8, []), (9, []), (10, []), (11, []), (12, []), (13, []), (14, []), (15, [])], []) else none)
def pl_75 (i : Nat) : Option (List (Nat × List Nat) × List Nat) := (bif Nat.blt i 8 then (bif Nat.beq i 6 then some ([(0, []), (1, []), (3, []), (2, [3]), (4, []), (5, [])], [3]) else none) else (bif Nat.beq i 8 then some ([(0, []), (1, []), (2, []), (4, []), (3, [4]), (5, []), (6, []), (7, [])], [4]) else none))
def pl_80 (i : Nat) : Option (List (Nat × List Nat) × List Nat) := (bif Nat.blt i 8 then (bif Nat.beq i 2 then some ([(0, []), (1, []), (2, []), (3, []), (4, []), (5, []), (6, []), (7, []), (8, []), (9, []), (10, []), (11, []), (12, []), (13, []), (14, []), (15, [])], []) else none) else (bif Nat.beq i 8 then some ([(0, []), (1, []), (2, []), (4, []), (3, [0, 4]), (5, []), (6, []), (7, []), (8, []), (9, []), (10, []), (11, [0]), (12, []), (13, []), (14, []), (15, []), (16, [])], [0, 4]) else none))
def pl_85 (i : Nat) : Option (List (Nat × List Nat) × List Nat) := (bif Nat.blt i 23 then (bif Nat.beq i 12 then some ([(0, []), (1, []), (3, []), (4, []), (5, []), (2, [5]), (6, [5]), (7, []), (8, []), (9, [])], [5]) else none) else (bif Nat.beq i 23 then some ([(0, []), (1, []), (2, []), (3, []), (4, [1]), (5, []), (6, []), (7, []), (8, [])], [1]) else none))
def pl_86 (i : Nat) : Option (List (Nat × List Nat) × List Nat) := (bif Nat.blt i 7 then (bif Nat.beq i 6 then some ([(0, []), (1, []), (2, [1]), (3, [])], [1]) else none) else (bif Nat.beq i 7 then some ([(0, []), (1, []), (2, [1]), (3, [])], [1]) else none))
def pl_87 (i : Nat) : Option (List (Nat × List Nat) × List Nat) := (bif Nat.blt i 18 then (bif Nat.blt i 11 then (bif Nat.beq i 10 then some ([(0, []), (1, []), (2, []), (3, []), (4, []), (5, []), (6, []), (7, []), (8, [2, 4, 6]), (9, []), (10, []), (11, [])], [2, 4, 6]) else none) else (bif Nat.beq i 11 then some ([(0, []), (2, []), (1, [2]), (3, []), (4, [])], [2]) else none)) else (bif Nat.blt i 21 then (bif Nat.beq i 18 then some ([(0, []), (1, []), (2, []), (3, []), (4, []), (5, []), (6, []), (7, []), (8, []), (9, []), (10, []), (11, []), (12, []), (17, []), (18, []), (13, [17, 18]), (14, []), (15, []), (16, []), (19, []), (20, [])], [17, 18]) else none) else (bif Nat.blt i 24 then (bif Nat.beq i 21 then some ([(0, []), (1, []), (2, []), (4, []), (5, []), (6, []), (8, []), (9, []), (10, []), (12, []), (13, []), (14, []), (17, []), (3, [6, 10, 14, 17]), (7, [10, 14, 17]), (11, [14, 17]), (15, [17]), (16, []), (18, [])], [6, 10, 14, 17]) else none) else (bif Nat.beq i 24 then some ([(0, []), (1, []), (2, []), (3, []), (4, [1, 3]), (5, [3]), (6, []), (7, [])], [1, 3]) else none))))
def pl_88 (i : Nat) : Option (List (Nat × List Nat) × List Nat) := (bif Nat.blt i 16 then (bif Nat.beq i 6 then some ([(0, []), (1, []), (2, []), (3, []), (5, []), (6, []), (7, []), (8, []), (4, [0, 5]), (9, [0]), (10, []), (11, []), (12, []), (13, []), (14, []), (15, [])], [0, 5]) else none) else (bif Nat.beq i 16 then some ([(0, []), (1, []), (2, []), (3, []), (5, []), (6, []), (7, []), (8, []), (4, [0, 5]), (9, [0]), (10, []), (11, []), (12, []), (13, []), (14, []), (15, [])], [0, 5]) else none))
def pl_92 (i : Nat) : Option (List (Nat × List Nat) × List Nat) := (bif Nat.blt i 11 then (bif Nat.beq i 2 then some ([(0, []), (1, []), (2, []), (4, []), (5, []), (6, []), (7, []), (9, []), (10, []), (11, []), (12, []), (13, []), (3, [4, 9]), (8, [9]), (14, []), (15, []), (16, []), (17, [])], [4, 9]) else none) else (bif Nat.beq i 11 then some ([(0, []), (1, []), (2, [1]), (3, []), (4, [])], [1]) else none))
def pl_93 (i : Nat) : Option (List (Nat × List Nat) × List Nat) := (bif Nat.blt i 68 then (bif Nat.beq i 18 then some ([(0, []), (1, []), (2, []), (3, []), (4, []), (5, []), (6, [0]), (7, [0]), (8, [])], [0]) else none) else (bif Nat.beq i 68 then some ([(0, []), (1, []), (2, [1]), (3, []), (4, [])], [1]) else none))
def pl_95 (i : Nat) : Option (List (Nat × List Nat) × List Nat) := (bif Nat.beq i 3 then some ([(0, []), (1, []), (2, []), (3, []), (4, []), (5, []), (6, []), (9, []), (10, []), (11, []), (12, []), (13, []), (14, []), (15, []), (18, []), (7, [11, 13]), (8, [11, 13]), (16, []), (17, []), (19, []), (20, []), (21, [])], [11, 13]) else none)
def pl_96 (i : Nat) : Option (List (Nat × List Nat) × List Nat) := (bif Nat.blt i 9 then (bif Nat.beq i 8 then some ([(0, []), (1, []), (2, []), (3, []), (4, []), (5, []), (6, []), (7, []), (8, [])], []) else none) else (bif Nat.beq i 9 then some ([(0, []), (1, []), (2, []), (3, []), (4, []), (5, []), (6, []), (7, []), (8, [])], []) else none))
def pl_109 (i : Nat) : Option (List (Nat × List Nat) × List Nat) := (bif Nat.beq i 19 then some ([(0, []), (1, []), (2, []), (3, []), (4, []), (5, []), (6, []), (7, []), (8, []), (9, []), (10, []), (12, []), (13, []), (14, []), (11, [0]), (15, [0]), (16, [0]), (17, [])], [0]) else none)
def pl_110 (i : Nat) : Option (List (Nat × List Nat) × List Nat) := (bif Nat.beq i 3 then some ([(0, []), (1, []), (2, []), (4, []), (9, []), (3, [0, 9]), (5, [9]), (6, []), (7, []), (8, []), (10, []), (11, [])], [0, 9]) else none)
def pl_112 (i : Nat) : Option (List (Nat × List Nat) × List Nat) := (bif Nat.blt i 26 then (bif Nat.blt i 11 then (bif Nat.blt i 8 then (bif Nat.beq i 6 then some ([(0, []), (1, []), (2, [1]), (3, [])], [1]) else none) else (bif Nat.blt i 9 then (bif Nat.beq i 8 then some ([(0, []), (1, []), (2, []), (3, []), (4, []), (6, []), (7, []), (5, [2, 7]), (8, []), (9, [2, 7]), (10, [])], [2, 7]) else none) else (bif Nat.beq i 9 then some ([(0, []), (1, []), (2, []), (3, []), (4, []), (5, []), (7, []), (8, []), (6, [8]), (9, []), (10, []), (11, []), (12, [])], [8]) else none))) else (bif Nat.blt i 16 then (bif Nat.blt i 13 then (bif Nat.beq i 11 then some ([(0, []), (1, []), (2, [1]), (3, [])], [1]) else none) else (bif Nat.beq i 13 then some ([(0, []), (1, []), (3, []), (4, []), (2, [4]), (5, []), (6, []), (7, [])], [4]) else none)) else (bif Nat.blt i 24 then (bif Nat.beq i 16 then some ([(0, []), (1, []), (3, []), (4, []), (2, [4]), (5, []), (6, [])], [4]) else none) else (bif Nat.beq i 24 then some ([(0, []), (1, []), (2, []), (4, []), (5, []), (6, []), (7, []), (9, []), (10, []), (11, []), (12, []), (14, []), (18, []), (3, [5, 7, 10, 18]), (8, [10, 18]), (13, [10, 18]), (15, [10, 18]), (16, [18]), (17, []), (19, [])], [5, 7, 10, 18]) else none)))) else (bif Nat.blt i 45 then (bif Nat.blt i 41 then (bif Nat.beq i 26 then some ([(0, []), (1, []), (3, []), (4, []), (5, []), (8, []), (2, [4, 8]), (6, [8]), (7, []), (9, [8]), (10, [])], [4, 8]) else none) else (bif Nat.blt i 42 then (bif Nat.beq i 41 then some ([(0, []), (1, []), (3, []), (4, []), (2, [4]), (5, []), (6, [])], [4]) else none) else (bif Nat.beq i 42 then some ([(0, []), (1, []), (3, []), (4, []), (2, [4]), (5, []), (6, []), (7, [])], [4]) else none))) else (bif Nat.blt i 50 then (bif Nat.blt i 49 then (bif Nat.beq i 45 then some ([(0, []), (1, []), (3, []), (4, []), (2, [4]), (5, []), (6, [])], [4]) else none) else (bif Nat.beq i 49 then some ([(0, []), (1, []), (3, []), (4, []), (5, []), (6, []), (8, []), (9, []), (2, [4, 6]), (7, []), (10, []), (11, []), (12, [])], [4, 6]) else none)) else (bif Nat.blt i 51 then (bif Nat.beq i 50 then some ([(0, []), (1, []), (2, []), (4, []), (5, []), (6, []), (9, []), (10, []), (11, []), (13, []), (14, []), (15, []), (3, [5, 10, 14]), (7, [10, 14]), (8, [10, 14]), (12, [14]), (16, []), (17, []), (18, []), (19, [])], [5, 10, 14]) else none) else (bif Nat.beq i 51 then some ([(0, []), (1, []), (2, [1]), (3, [])], [1]) else none)))))
def pl_114 (i : Nat) : Option (List (Nat × List Nat) × List Nat) := (bif Nat.beq i 1 then some ([(0, []), (1, []), (2, []), (3, []), (4, []), (6, []), (7, []), (8, []), (9, []), (12, []), (13, []), (14, []), (15, []), (16, []), (18, []), (19, []), (20, []), (21, []), (5, [8, 15, 20]), (10, [15, 20]), (11, [15, 20]), (17, [20]), (22, []), (23, []), (24, []), (25, [])], [8, 15, 20]) else none)
def pl_116 (i : Nat) : Option (List (Nat × List Nat) × List Nat) := (bif Nat.beq i 9 then some ([(0, []), (1, []), (2, []), (3, []), (5, []), (6, []), (7, []), (8, []), (11, []), (4, [7, 11]), (9, [11]), (10, []), (12, [])], [7, 11]) else none)
def pl_117 (i : Nat) : Option (List (Nat × List Nat) × List Nat) := (bif Nat.beq i 10 then some ([(0, []), (1, []), (2, []), (3, []), (4, []), (5, []), (6, []), (7, []), (8, []), (9, []), (10, [0]), (11, [])], [0]) else none)
def pl_118 (i : Nat) : Option (List (Nat × List Nat) × List Nat) := (bif Nat.blt i 23 then (bif Nat.beq i 16 then some ([(0, []), (1, []), (2, []), (3, []), (5, []), (6, []), (7, []), (9, []), (10, []), (11, []), (12, []), (14, []), (4, [9, 10, 11, 14]), (8, []), (13, []), (15, [])], [9, 10, 11, 14]) else none) else (bif Nat.beq i 23 then some ([(0, []), (1, []), (2, []), (3, []), (4, []), (5, []), (6, []), (7, []), (9, []), (10, []), (11, []), (12, []), (13, []), (14, []), (15, []), (16, []), (8, [3, 12, 16]), (17, [3, 12]), (18, []), (19, [])], [3, 12, 16]) else none))
def pl_119 (i : Nat) : Option (List (Nat × List Nat) × List Nat) := (bif Nat.blt i 14 then (bif Nat.beq i 11 then some ([(0, []), (1, []), (2, []), (3, [0]), (4, []), (5, [])], [0]) else none) else (bif Nat.beq i 14 then some ([(0, []), (1, []), (3, []), (5, []), (2, [0, 3, 5]), (4, [0, 5]), (6, [0]), (7, []), (8, []), (9, [])], [0, 3, 5]) else none))
def pl_120 (i : Nat) : Option (List (Nat × List Nat) × List Nat) := (bif Nat.beq i 2 then some ([(0, []), (1, []), (2, []), (4, []), (5, []), (6, []), (7, []), (9, []), (10, []), (11, []), (12, []), (14, []), (15, []), (16, []), (17, []), (18, []), (27, []), (28, []), (3, [4, 9, 14, 27, 28]), (8, [9, 14, 27, 28]), (13, [14, 27, 28]), (19, [27, 28]), (20, []), (21, [27, 28]), (22, []), (23, []), (24, []), (25, []), (26, []), (29, []), (30, []), (31, []), (32, [])], [4, 9, 14, 27, 28]) else none)
def pl_122 (i : Nat) : Option (List (Nat × List Nat) × List Nat) := (bif Nat.beq i 7 then some ([(0, []), (1, []), (2, []), (3, []), (4, []), (5, []), (6, []), (7, []), (8, []), (9, []), (10, []), (11, []), (12, []), (13, []), (14, [])], []) else none)
def pl_125 (i : Nat) : Option (List (Nat × List Nat) × List Nat) := (bif Nat.beq i 10 then some ([(0, []), (1, []), (2, []), (3, []), (4, []), (5, []), (6, []), (7, []), (8, []), (9, []), (10, [0]), (11, []), (12, []), (13, []), (14, []), (15, [])], [0]) else none)
def pl_128 (i : Nat) : Option (List (Nat × List Nat) × List Nat) := (bif Nat.beq i 18 then some ([(0, []), (1, []), (2, []), (3, []), (4, []), (5, []), (6, []), (7, []), (8, []), (9, []), (10, []), (11, [])], []) else none)
def pl_130 (i : Nat) : Option (List (Nat × List Nat) × List Nat) := (bif Nat.beq i 8 then some ([(0, []), (1, []), (2, []), (3, []), (4, []), (5, []), (6, [0]), (7, [])], [0]) else none)
def pl_133 (i : Nat) : Option (List (Nat × List Nat) × List Nat) := (bif Nat.beq i 1 then some ([(0, []), (4, []), (1, [4]), (2, []), (3, [4]), (5, []), (6, []), (7, []), (8, []), (9, []), (10, []), (11, []), (12, [])], [4]) else none)
def pl_134 (i : Nat) : Option (List (Nat × List Nat) × List Nat) := (bif Nat.blt i 24 then (bif Nat.blt i 14 then (bif Nat.beq i 3 then some ([(0, []), (1, []), (2, []), (3, []), (4, []), (5, []), (7, []), (8, []), (9, []), (10, []), (11, []), (6, [10, 11]), (12, [10]), (13, [])], [10, 11]) else none) else (bif Nat.blt i 22 then (bif Nat.beq i 14 then some ([(0, []), (1, []), (2, []), (3, []), (4, []), (5, []), (6, []), (7, []), (8, []), (9, []), (10, []), (11, []), (12, []), (13, []), (15, []), (16, []), (17, []), (18, []), (19, []), (20, []), (21, []), (22, []), (23, []), (24, []), (14, [0, 18]), (25, [0]), (26, [0]), (27, [])], [0, 18]) else none) else (bif Nat.beq i 22 then some ([(0, []), (1, []), (2, []), (3, []), (4, []), (5, []), (6, []), (7, []), (8, []), (9, []), (10, []), (11, []), (12, []), (13, []), (15, []), (14, [0]), (16, [0]), (17, [])], [0]) else none))) else (bif Nat.blt i 32 then (bif Nat.blt i 28 then (bif Nat.beq i 24 then some ([(0, []), (1, []), (2, []), (3, []), (4, []), (5, []), (6, []), (7, []), (8, []), (9, []), (11, []), (12, []), (13, []), (14, []), (15, []), (10, [14]), (16, []), (17, []), (18, []), (19, []), (20, []), (21, [])], [14]) else none) else (bif Nat.beq i 28 then some ([(0, []), (1, []), (2, []), (3, []), (4, []), (5, []), (6, []), (7, []), (8, []), (10, []), (11, []), (12, []), (13, []), (14, []), (15, []), (16, []), (17, []), (18, []), (9, [14]), (19, []), (20, []), (21, []), (22, [])], [14]) else none)) else (bif Nat.blt i 49 then (bif Nat.beq i 32 then some ([(0, []), (1, []), (2, []), (3, []), (4, []), (5, []), (6, []), (7, []), (8, []), (10, []), (11, []), (12, []), (13, []), (14, []), (15, []), (16, []), (17, []), (9, [13]), (18, []), (19, []), (20, [])], [13]) else none) else (bif Nat.beq i 49 then some ([(0, []), (1, []), (2, []), (3, []), (4, []), (5, []), (6, []), (7, []), (8, []), (9, []), (10, []), (11, []), (12, []), (13, []), (14, []), (15, []), (16, []), (17, []), (18, []), (19, [])], []) else none))))
def pl_138 (i : Nat) : Option (List (Nat × List Nat) × List Nat) := (bif Nat.beq i 9 then some ([(0, []), (1, []), (2, []), (3, [0]), (4, []), (5, [])], [0]) else none)
def pl_140 (i : Nat) : Option (List (Nat × List Nat) × List Nat) := (bif Nat.blt i 42 then (bif Nat.blt i 34 then (bif Nat.beq i 30 then some ([(0, []), (1, []), (2, []), (4, []), (5, []), (6, []), (3, [4]), (7, []), (8, []), (9, [])], [4]) else none) else (bif Nat.blt i 38 then (bif Nat.beq i 34 then some ([(0, []), (1, []), (2, []), (3, []), (4, []), (5, []), (6, []), (7, []), (8, []), (9, []), (10, []), (11, []), (12, []), (13, []), (14, []), (15, [])], []) else none) else (bif Nat.beq i 38 then some ([(0, []), (1, []), (2, []), (4, []), (5, []), (6, []), (3, [4]), (7, []), (8, []), (9, [])], [4]) else none))) else (bif Nat.blt i 53 then (bif Nat.blt i 49 then (bif Nat.beq i 42 then some ([(0, []), (1, []), (2, []), (3, []), (4, []), (5, []), (6, []), (7, []), (8, []), (9, []), (10, []), (11, []), (12, []), (13, []), (14, []), (15, [])], []) else none) else (bif Nat.beq i 49 then some ([(0, []), (1, []), (2, []), (3, []), (5, []), (6, []), (7, []), (4, [5]), (8, []), (9, []), (10, [])], [5]) else none)) else (bif Nat.blt i 54 then (bif Nat.beq i 53 then some ([(0, []), (1, []), (2, []), (3, []), (4, []), (5, []), (6, []), (8, []), (9, []), (10, []), (11, []), (12, []), (7, [0, 10]), (13, [0]), (14, [0]), (15, [0]), (16, [])], [0, 10]) else none) else (bif Nat.beq i 54 then some ([(0, []), (1, []), (2, []), (3, []), (4, []), (5, []), (6, []), (7, []), (8, []), (9, []), (10, []), (11, []), (12, []), (13, [6]), (14, []), (15, []), (16, [])], [6]) else none))))
def pl_141 (i : Nat) : Option (List (Nat × List Nat) × List Nat) := (bif Nat.beq i 6 then some ([(0, []), (1, []), (2, []), (3, []), (4, []), (5, []), (6, []), (7, [])], []) else none)
def pl_142 (i : Nat) : Option (List (Nat × List Nat) × List Nat) := (bif Nat.blt i 23 then (bif Nat.beq i 21 then some ([(0, []), (1, []), (2, []), (3, []), (4, []), (5, []), (6, []), (7, []), (8, []), (9, []), (10, []), (12, []), (13, []), (14, []), (15, []), (11, [6, 15]), (16, [6]), (17, []), (18, []), (19, [])], [6, 15]) else none) else (bif Nat.beq i 23 then some ([(0, []), (1, []), (2, []), (3, []), (4, []), (5, []), (6, []), (7, []), (8, []), (9, []), (10, [6]), (11, []), (12, []), (13, [])], [6]) else none))
def pls (f i : Nat) : Option (List (Nat × List Nat) × List Nat) := bif Nat.beq f 4 then pl_4 i else bif Nat.beq f 5 then pl_5 i else bif Nat.beq f 6 then pl_6 i else bif Nat.beq f 9 then pl_9 i else bif Nat.beq f 10 then pl_10 i else bif Nat.beq f 16 then pl_16 i else bif Nat.beq f 22 then pl_22 i else bif Nat.beq f 24 then pl_24 i else bif Nat.beq f 25 then pl_25 i else bif Nat.beq f 28 then pl_28 i else bif Nat.beq f 30 then pl_30 i else bif Nat.beq f 31 then pl_31 i else bif Nat.beq f 32 then pl_32 i else bif Nat.beq f 34 then pl_34 i else bif Nat.beq f 35 then pl_35 i else bif Nat.beq f 52 then pl_52 i else bif Nat.beq f 53 then pl_53 i else bif Nat.beq f 54 then pl_54 i else bif Nat.beq f 56 then pl_56 i else bif Nat.beq f 57 then pl_57 i else bif Nat.beq f 58 then pl_58 i else bif Nat.beq f 59 then pl_59 i else bif Nat.beq f 62 then pl_62 i else bif Nat.beq f 64 then pl_64 i else bif Nat.beq f 66 then pl_66 i else bif Nat.beq f 68 then pl_68 i else bif Nat.beq f 69 then pl_69 i else bif Nat.beq f 71 then pl_71 i else bif Nat.beq f 74 then pl_74 i else bif Nat.beq f 75 then pl_75 i else bif Nat.beq f 80 then pl_80 i else bif Nat.beq f 85 then pl_85 i else bif Nat.beq f 86 then pl_86 i else bif Nat.beq f 87 then pl_87 i else bif Nat.beq f 88 then pl_88 i else bif Nat.beq f 92 then pl_92 i else bif Nat.beq f 93 then pl_93 i else bif Nat.beq f 95 then pl_95 i else bif Nat.beq f 96 then pl_96 i else bif Nat.beq f 109 then pl_109 i else bif Nat.beq f 110 then pl_110 i else bif Nat.beq f 112 then pl_112 i else bif Nat.beq f 114 then pl_114 i else bif Nat.beq f 116 then pl_116 i else bif Nat.beq f 117 then pl_117 i else bif Nat.beq f 118 then pl_118 i else bif Nat.beq f 119 then pl_119 i else bif Nat.beq f 120 then pl_120 i else bif Nat.beq f 122 then pl_122 i else bif Nat.beq f 125 then pl_125 i else bif Nat.beq f 128 then pl_128 i else bif Nat.beq f 130 then pl_130 i else bif Nat.beq f 133 then pl_133 i else bif Nat.beq f 134 then pl_134 i else bif Nat.beq f 138 then pl_138 i else bif Nat.beq f 140 then pl_140 i else bif Nat.beq f 141 then pl_141 i else bif Nat.beq f 142 then pl_142 i else none
theorem plok_4 : ((Tryz.prog.funcs[4]?).bind (fun fn => fn.body)).all (plOk pl_4) = true := by kernel_rfl
theorem plok_5 : ((Tryz.prog.funcs[5]?).bind (fun fn => fn.body)).all (plOk pl_5) = true := by kernel_rfl
theorem plok_6 : ((Tryz.prog.funcs[6]?).bind (fun fn => fn.body)).all (plOk pl_6) = true := by kernel_rfl
theorem plok_9 : ((Tryz.prog.funcs[9]?).bind (fun fn => fn.body)).all (plOk pl_9) = true := by kernel_rfl
theorem plok_10 : ((Tryz.prog.funcs[10]?).bind (fun fn => fn.body)).all (plOk pl_10) = true := by kernel_rfl
theorem plok_16 : ((Tryz.prog.funcs[16]?).bind (fun fn => fn.body)).all (plOk pl_16) = true := by kernel_rfl
theorem plok_22 : ((Tryz.prog.funcs[22]?).bind (fun fn => fn.body)).all (plOk pl_22) = true := by kernel_rfl
theorem plok_24 : ((Tryz.prog.funcs[24]?).bind (fun fn => fn.body)).all (plOk pl_24) = true := by kernel_rfl
theorem plok_25 : ((Tryz.prog.funcs[25]?).bind (fun fn => fn.body)).all (plOk pl_25) = true := by kernel_rfl
theorem plok_28 : ((Tryz.prog.funcs[28]?).bind (fun fn => fn.body)).all (plOk pl_28) = true := by kernel_rfl
theorem plok_30 : ((Tryz.prog.funcs[30]?).bind (fun fn => fn.body)).all (plOk pl_30) = true := by kernel_rfl
theorem plok_31 : ((Tryz.prog.funcs[31]?).bind (fun fn => fn.body)).all (plOk pl_31) = true := by kernel_rfl
theorem plok_32 : ((Tryz.prog.funcs[32]?).bind (fun fn => fn.body)).all (plOk pl_32) = true := by kernel_rfl
theorem plok_34 : ((Tryz.prog.funcs[34]?).bind (fun fn => fn.body)).all (plOk pl_34) = true := by kernel_rfl
theorem plok_35 : ((Tryz.prog.funcs[35]?).bind (fun fn => fn.body)).all (plOk pl_35) = true := by kernel_rfl
theorem plok_52 : ((Tryz.prog.funcs[52]?).bind (fun fn => fn.body)).all (plOk pl_52) = true := by kernel_rfl
theorem plok_53 : ((Tryz.prog.funcs[53]?).bind (fun fn => fn.body)).all (plOk pl_53) = true := by kernel_rfl
theorem plok_54 : ((Tryz.prog.funcs[54]?).bind (fun fn => fn.body)).all (plOk pl_54) = true := by kernel_rfl
theorem plok_56 : ((Tryz.prog.funcs[56]?).bind (fun fn => fn.body)).all (plOk pl_56) = true := by kernel_rfl
theorem plok_57 : ((Tryz.prog.funcs[57]?).bind (fun fn => fn.body)).all (plOk pl_57) = true := by kernel_rfl
theorem plok_58 : ((Tryz.prog.funcs[58]?).bind (fun fn => fn.body)).all (plOk pl_58) = true := by kernel_rfl
theorem plok_59 : ((Tryz.prog.funcs[59]?).bind (fun fn => fn.body)).all (plOk pl_59) = true := by kernel_rfl
theorem plok_62 : ((Tryz.prog.funcs[62]?).bind (fun fn => fn.body)).all (plOk pl_62) = true := by kernel_rfl
theorem plok_64 : ((Tryz.prog.funcs[64]?).bind (fun fn => fn.body)).all (plOk pl_64) = true := by kernel_rfl
theorem plok_66 : ((Tryz.prog.funcs[66]?).bind (fun fn => fn.body)).all (plOk pl_66) = true := by kernel_rfl
theorem plok_68 : ((Tryz.prog.funcs[68]?).bind (fun fn => fn.body)).all (plOk pl_68) = true := by kernel_rfl
theorem plok_69 : ((Tryz.prog.funcs[69]?).bind (fun fn => fn.body)).all (plOk pl_69) = true := by kernel_rfl
theorem plok_71 : ((Tryz.prog.funcs[71]?).bind (fun fn => fn.body)).all (plOk pl_71) = true := by kernel_rfl
theorem plok_74 : ((Tryz.prog.funcs[74]?).bind (fun fn => fn.body)).all (plOk pl_74) = true := by kernel_rfl
theorem plok_75 : ((Tryz.prog.funcs[75]?).bind (fun fn => fn.body)).all (plOk pl_75) = true := by kernel_rfl
theorem plok_80 : ((Tryz.prog.funcs[80]?).bind (fun fn => fn.body)).all (plOk pl_80) = true := by kernel_rfl
theorem plok_85 : ((Tryz.prog.funcs[85]?).bind (fun fn => fn.body)).all (plOk pl_85) = true := by kernel_rfl
theorem plok_86 : ((Tryz.prog.funcs[86]?).bind (fun fn => fn.body)).all (plOk pl_86) = true := by kernel_rfl
theorem plok_87 : ((Tryz.prog.funcs[87]?).bind (fun fn => fn.body)).all (plOk pl_87) = true := by kernel_rfl
theorem plok_88 : ((Tryz.prog.funcs[88]?).bind (fun fn => fn.body)).all (plOk pl_88) = true := by kernel_rfl
theorem plok_92 : ((Tryz.prog.funcs[92]?).bind (fun fn => fn.body)).all (plOk pl_92) = true := by kernel_rfl
theorem plok_93 : ((Tryz.prog.funcs[93]?).bind (fun fn => fn.body)).all (plOk pl_93) = true := by kernel_rfl
theorem plok_95 : ((Tryz.prog.funcs[95]?).bind (fun fn => fn.body)).all (plOk pl_95) = true := by kernel_rfl
theorem plok_96 : ((Tryz.prog.funcs[96]?).bind (fun fn => fn.body)).all (plOk pl_96) = true := by kernel_rfl
theorem plok_109 : ((Tryz.prog.funcs[109]?).bind (fun fn => fn.body)).all (plOk pl_109) = true := by kernel_rfl
theorem plok_110 : ((Tryz.prog.funcs[110]?).bind (fun fn => fn.body)).all (plOk pl_110) = true := by kernel_rfl
theorem plok_112 : ((Tryz.prog.funcs[112]?).bind (fun fn => fn.body)).all (plOk pl_112) = true := by kernel_rfl
theorem plok_114 : ((Tryz.prog.funcs[114]?).bind (fun fn => fn.body)).all (plOk pl_114) = true := by kernel_rfl
theorem plok_116 : ((Tryz.prog.funcs[116]?).bind (fun fn => fn.body)).all (plOk pl_116) = true := by kernel_rfl
theorem plok_117 : ((Tryz.prog.funcs[117]?).bind (fun fn => fn.body)).all (plOk pl_117) = true := by kernel_rfl
theorem plok_118 : ((Tryz.prog.funcs[118]?).bind (fun fn => fn.body)).all (plOk pl_118) = true := by kernel_rfl
theorem plok_119 : ((Tryz.prog.funcs[119]?).bind (fun fn => fn.body)).all (plOk pl_119) = true := by kernel_rfl
theorem plok_120 : ((Tryz.prog.funcs[120]?).bind (fun fn => fn.body)).all (plOk pl_120) = true := by kernel_rfl
theorem plok_122 : ((Tryz.prog.funcs[122]?).bind (fun fn => fn.body)).all (plOk pl_122) = true := by kernel_rfl
theorem plok_125 : ((Tryz.prog.funcs[125]?).bind (fun fn => fn.body)).all (plOk pl_125) = true := by kernel_rfl
theorem plok_128 : ((Tryz.prog.funcs[128]?).bind (fun fn => fn.body)).all (plOk pl_128) = true := by kernel_rfl
theorem plok_130 : ((Tryz.prog.funcs[130]?).bind (fun fn => fn.body)).all (plOk pl_130) = true := by kernel_rfl
theorem plok_133 : ((Tryz.prog.funcs[133]?).bind (fun fn => fn.body)).all (plOk pl_133) = true := by kernel_rfl
theorem plok_134 : ((Tryz.prog.funcs[134]?).bind (fun fn => fn.body)).all (plOk pl_134) = true := by kernel_rfl
theorem plok_138 : ((Tryz.prog.funcs[138]?).bind (fun fn => fn.body)).all (plOk pl_138) = true := by kernel_rfl
theorem plok_140 : ((Tryz.prog.funcs[140]?).bind (fun fn => fn.body)).all (plOk pl_140) = true := by kernel_rfl
theorem plok_141 : ((Tryz.prog.funcs[141]?).bind (fun fn => fn.body)).all (plOk pl_141) = true := by kernel_rfl
theorem plok_142 : ((Tryz.prog.funcs[142]?).bind (fun fn => fn.body)).all (plOk pl_142) = true := by kernel_rfl

/-- The numbers that cells hold. -/
def decL : List MV → Option (List Int)
  | [] => some []
  | .lit (.int .u64 n) :: l => match decL l with
    | some D => some (n :: D)
    | none => none
  | _ => none
theorem decL_eq : ∀ {l : List MV} {D : List Int}, decL l = some D → l = D.map u64 := by
  intro l
  induction l with
  | nil => intro D h; cases h; rfl
  | cons x l ih =>
    intro D h
    unfold decL at h
    split at h
    · rename_i heq; cases heq
    · rename_i n l' heq
      cases heq
      split at h
      · rename_i D' hD; cases h; rw [ih hD]; rfl
      · cases h
    · cases h
def k_106 (args : List MV) (H : MH) : Option (MV × Option MH) := match args with
  | [.lit (.int .u64 a), .lit (.int .u64 b), .lit (.int .u64 c)] => bif decide (0 ≤ a) && decide (0 ≤ b) && decide (0 ≤ c) && decide (c ≤ 1) then fVk (.tup [u64 (add64M a b c).1, u64 (add64M a b c).2]) (fun v => some (v, none)) else none
  | _ => none
theorem k_106_spec {args : List MV} {H : MH} {r : MV × Option MH} (h : k_106 args H = some r) : Spec Tryz.prog 106 args H fun v' H' => v' = r.1 ∧ H' = r.2.getD H := by
  unfold k_106 at h
  split at h
  · rename_i a b c
    simp only [fVk_eq] at h
    rw [Bool.cond_eq_ite] at h
    split at h
    · rename_i hc
      try simp only [Bool.and_eq_true, decide_eq_true_eq] at hc
      cases h
      exact add64_spec hc.1.1.1 hc.1.1.2 ⟨hc.1.2, hc.2⟩ H
    · cases h
  · cases h
def k_126 (args : List MV) (H : MH) : Option (MV × Option MH) := match args with
  | [.lit (.int .u64 a), .lit (.int .u64 b), .lit (.int .u64 c)] => bif decide (0 ≤ a) && decide (0 ≤ b) && decide (b < 18446744073709551616) && decide (0 ≤ c) && decide (c ≤ 1) then fVk (.tup [u64 (sub64M a b c).1, u64 (sub64M a b c).2]) (fun v => some (v, none)) else none
  | _ => none
theorem k_126_spec {args : List MV} {H : MH} {r : MV × Option MH} (h : k_126 args H = some r) : Spec Tryz.prog 126 args H fun v' H' => v' = r.1 ∧ H' = r.2.getD H := by
  unfold k_126 at h
  split at h
  · rename_i a b c
    simp only [fVk_eq] at h
    rw [Bool.cond_eq_ite] at h
    split at h
    · rename_i hc
      try simp only [Bool.and_eq_true, decide_eq_true_eq] at hc
      cases h
      exact sub64_spec hc.1.1.1.1 ⟨hc.1.1.1.2, hc.1.1.2⟩ ⟨hc.1.2, hc.2⟩ H
    · cases h
  · cases h
def k_72 (args : List MV) (H : MH) : Option (MV × Option MH) := match args with
  | [.lit (.int .u64 a), .lit (.int .u64 b)] => bif true then fVk (.tup [u64 (mulM a b).1, u8 (mulM a b).2]) (fun v => some (v, none)) else none
  | _ => none
theorem k_72_spec {args : List MV} {H : MH} {r : MV × Option MH} (h : k_72 args H = some r) : Spec Tryz.prog 72 args H fun v' H' => v' = r.1 ∧ H' = r.2.getD H := by
  unfold k_72 at h
  split at h
  · rename_i a b
    simp only [fVk_eq] at h
    rw [Bool.cond_eq_ite] at h
    split at h
    · rename_i hc
      try simp only [Bool.and_eq_true, decide_eq_true_eq] at hc
      cases h
      exact mul_spec a b H
    · cases h
  · cases h
def k_71 (args : List MV) (H : MH) : Option (MV × Option MH) := match args with
  | [.lit (.int .u64 a), .lit (.int .u64 b)] => bif decide (0 ≤ a) && decide (a < 18446744073709551616) && decide (0 ≤ b) && decide (b < 18446744073709551616) then fVk (.tup [u64 (addM a b).1, u8 (addM a b).2]) (fun v => some (v, none)) else none
  | _ => none
theorem k_71_spec {args : List MV} {H : MH} {r : MV × Option MH} (h : k_71 args H = some r) : Spec Tryz.prog 71 args H fun v' H' => v' = r.1 ∧ H' = r.2.getD H := by
  unfold k_71 at h
  split at h
  · rename_i a b
    simp only [fVk_eq] at h
    rw [Bool.cond_eq_ite] at h
    split at h
    · rename_i hc
      try simp only [Bool.and_eq_true, decide_eq_true_eq] at hc
      cases h
      exact add_spec ⟨hc.1.1.1, hc.1.1.2⟩ ⟨hc.1.2, hc.2⟩ H
    · cases h
  · cases h
def k_43 (args : List MV) (H : MH) : Option (MV × Option MH) := match args with
  | [.lit (.int .u64 a)] => bif true then fVk (i64 (kindM a)) (fun v => some (v, none)) else none
  | _ => none
theorem k_43_spec {args : List MV} {H : MH} {r : MV × Option MH} (h : k_43 args H = some r) : Spec Tryz.prog 43 args H fun v' H' => v' = r.1 ∧ H' = r.2.getD H := by
  unfold k_43 at h
  split at h
  · rename_i a
    simp only [fVk_eq] at h
    rw [Bool.cond_eq_ite] at h
    split at h
    · rename_i hc
      try simp only [Bool.and_eq_true, decide_eq_true_eq] at hc
      cases h
      exact kind_spec a H
    · cases h
  · cases h
def k_17 (args : List MV) (H : MH) : Option (MV × Option MH) := match args with
  | [.lit (.int .u64 a)] => bif true then fVk (u64 (absM a)) (fun v => some (v, none)) else none
  | _ => none
theorem k_17_spec {args : List MV} {H : MH} {r : MV × Option MH} (h : k_17 args H = some r) : Spec Tryz.prog 17 args H fun v' H' => v' = r.1 ∧ H' = r.2.getD H := by
  unfold k_17 at h
  split at h
  · rename_i a
    simp only [fVk_eq] at h
    rw [Bool.cond_eq_ite] at h
    split at h
    · rename_i hc
      try simp only [Bool.and_eq_true, decide_eq_true_eq] at hc
      cases h
      exact abs_spec a H
    · cases h
  · cases h
def k_51 (args : List MV) (H : MH) : Option (MV × Option MH) := match args with
  | [.lit (.int .u64 a)] => bif true then fVk (bl (negM a)) (fun v => some (v, none)) else none
  | _ => none
theorem k_51_spec {args : List MV} {H : MH} {r : MV × Option MH} (h : k_51 args H = some r) : Spec Tryz.prog 51 args H fun v' H' => v' = r.1 ∧ H' = r.2.getD H := by
  unfold k_51 at h
  split at h
  · rename_i a
    simp only [fVk_eq] at h
    rw [Bool.cond_eq_ite] at h
    split at h
    · rename_i hc
      try simp only [Bool.and_eq_true, decide_eq_true_eq] at hc
      cases h
      exact neg_spec a H
    · cases h
  · cases h
def k_15 (args : List MV) (H : MH) : Option (MV × Option MH) := match args with
  | [.lit (.int .u64 a)] => bif true then fVk (u64 (flipM a)) (fun v => some (v, none)) else none
  | _ => none
theorem k_15_spec {args : List MV} {H : MH} {r : MV × Option MH} (h : k_15 args H = some r) : Spec Tryz.prog 15 args H fun v' H' => v' = r.1 ∧ H' = r.2.getD H := by
  unfold k_15 at h
  split at h
  · rename_i a
    simp only [fVk_eq] at h
    rw [Bool.cond_eq_ite] at h
    split at h
    · rename_i hc
      try simp only [Bool.and_eq_true, decide_eq_true_eq] at hc
      cases h
      exact flip_spec a H
    · cases h
  · cases h
def k_45 (args : List MV) (H : MH) : Option (MV × Option MH) := match args with
  | [.lit (.int .u64 a)] => bif true then fVk (bl (finiteM a)) (fun v => some (v, none)) else none
  | _ => none
theorem k_45_spec {args : List MV} {H : MH} {r : MV × Option MH} (h : k_45 args H = some r) : Spec Tryz.prog 45 args H fun v' H' => v' = r.1 ∧ H' = r.2.getD H := by
  unfold k_45 at h
  split at h
  · rename_i a
    simp only [fVk_eq] at h
    rw [Bool.cond_eq_ite] at h
    split at h
    · rename_i hc
      try simp only [Bool.and_eq_true, decide_eq_true_eq] at hc
      cases h
      exact finite_spec a H
    · cases h
  · cases h
def k_48 (args : List MV) (H : MH) : Option (MV × Option MH) := match args with
  | [.lit (.int .u64 a)] => bif true then fVk (bl (signalsM a)) (fun v => some (v, none)) else none
  | _ => none
theorem k_48_spec {args : List MV} {H : MH} {r : MV × Option MH} (h : k_48 args H = some r) : Spec Tryz.prog 48 args H fun v' H' => v' = r.1 ∧ H' = r.2.getD H := by
  unfold k_48 at h
  split at h
  · rename_i a
    simp only [fVk_eq] at h
    rw [Bool.cond_eq_ite] at h
    split at h
    · rename_i hc
      try simp only [Bool.and_eq_true, decide_eq_true_eq] at hc
      cases h
      exact signals_spec a H
    · cases h
  · cases h
def k_49 (args : List MV) (H : MH) : Option (MV × Option MH) := match args with
  | [.lit (.int .u64 a)] => bif true then fVk (.tup [u64 (partsM a).1, i64 (partsM a).2]) (fun v => some (v, none)) else none
  | _ => none
theorem k_49_spec {args : List MV} {H : MH} {r : MV × Option MH} (h : k_49 args H = some r) : Spec Tryz.prog 49 args H fun v' H' => v' = r.1 ∧ H' = r.2.getD H := by
  unfold k_49 at h
  split at h
  · rename_i a
    simp only [fVk_eq] at h
    rw [Bool.cond_eq_ite] at h
    split at h
    · rename_i hc
      try simp only [Bool.and_eq_true, decide_eq_true_eq] at hc
      cases h
      exact parts_spec a H
    · cases h
  · cases h
def k_131 (args : List MV) (H : MH) : Option (MV × Option MH) := match args with
  | [.lit (.int .u64 a), .lit (.int .u64 b)] => bif true then fVk (u64 (signM a b)) (fun v => some (v, none)) else none
  | _ => none
theorem k_131_spec {args : List MV} {H : MH} {r : MV × Option MH} (h : k_131 args H = some r) : Spec Tryz.prog 131 args H fun v' H' => v' = r.1 ∧ H' = r.2.getD H := by
  unfold k_131 at h
  split at h
  · rename_i a b
    simp only [fVk_eq] at h
    rw [Bool.cond_eq_ite] at h
    split at h
    · rename_i hc
      try simp only [Bool.and_eq_true, decide_eq_true_eq] at hc
      cases h
      exact sign_spec a b H
    · cases h
  · cases h
def k_104 (args : List MV) (H : MH) : Option (MV × Option MH) := match args with
  | [.lit (.int .u64 a), .lit (.int .u64 b)] => bif true then fVk (wd (mul64M a b)) (fun v => some (v, none)) else none
  | _ => none
theorem k_104_spec {args : List MV} {H : MH} {r : MV × Option MH} (h : k_104 args H = some r) : Spec Tryz.prog 104 args H fun v' H' => v' = r.1 ∧ H' = r.2.getD H := by
  unfold k_104 at h
  split at h
  · rename_i a b
    simp only [fVk_eq] at h
    rw [Bool.cond_eq_ite] at h
    split at h
    · rename_i hc
      try simp only [Bool.and_eq_true, decide_eq_true_eq] at hc
      cases h
      exact wmul_spec a b H
    · cases h
  · cases h
def k_105 (args : List MV) (H : MH) : Option (MV × Option MH) := match args with
  | [.agg [.lit (.int .u64 a1), .lit (.int .u64 a2)], .agg [.lit (.int .u64 b1), .lit (.int .u64 b2)]] => bif true then fVk (i64 (wcmpM (a1, a2) (b1, b2))) (fun v => some (v, none)) else none
  | _ => none
theorem k_105_spec {args : List MV} {H : MH} {r : MV × Option MH} (h : k_105 args H = some r) : Spec Tryz.prog 105 args H fun v' H' => v' = r.1 ∧ H' = r.2.getD H := by
  unfold k_105 at h
  split at h
  · rename_i a1 a2 b1 b2
    simp only [fVk_eq] at h
    rw [Bool.cond_eq_ite] at h
    split at h
    · rename_i hc
      try simp only [Bool.and_eq_true, decide_eq_true_eq] at hc
      cases h
      exact wcmp_spec (a1, a2) (b1, b2) H
    · cases h
  · cases h
def k_74 (args : List MV) (H : MH) : Option (MV × Option MH) := match args with
  | [.agg [.lit (.int .u64 a1), .lit (.int .u64 a2)], .lit (.int .i64 b)] => bif true then fVk (wd (wleftM (a1, a2) b)) (fun v => some (v, none)) else none
  | _ => none
theorem k_74_spec {args : List MV} {H : MH} {r : MV × Option MH} (h : k_74 args H = some r) : Spec Tryz.prog 74 args H fun v' H' => v' = r.1 ∧ H' = r.2.getD H := by
  unfold k_74 at h
  split at h
  · rename_i a1 a2 b
    simp only [fVk_eq] at h
    rw [Bool.cond_eq_ite] at h
    split at h
    · rename_i hc
      try simp only [Bool.and_eq_true, decide_eq_true_eq] at hc
      cases h
      exact wleft_spec (a1, a2) b H
    · cases h
  · cases h
def k_50 (args : List MV) (H : MH) : Option (MV × Option MH) := match args with
  | [.lit (.bool a), .agg [.lit (.int .u64 b1), .lit (.int .u64 b2)], .lit (.int .i64 c), .lit (.bool d)] => bif decide (0 ≤ b1) && decide (b1 < 18446744073709551616) && decide (0 ≤ b2) && decide (b2 < 18446744073709551616) then fVk (.tup [u64 (roundM a (b1, b2) c d).1, u8 (roundM a (b1, b2) c d).2]) (fun v => some (v, none)) else none
  | _ => none
theorem k_50_spec {args : List MV} {H : MH} {r : MV × Option MH} (h : k_50 args H = some r) : Spec Tryz.prog 50 args H fun v' H' => v' = r.1 ∧ H' = r.2.getD H := by
  unfold k_50 at h
  split at h
  · rename_i a b1 b2 c d
    simp only [fVk_eq] at h
    rw [Bool.cond_eq_ite] at h
    split at h
    · rename_i hc
      try simp only [Bool.and_eq_true, decide_eq_true_eq] at hc
      cases h
      exact round_spec a ⟨⟨hc.1.1.1, hc.1.1.2⟩, ⟨hc.1.2, hc.2⟩⟩ c d H
    · cases h
  · cases h
def k_73 (args : List MV) (H : MH) : Option (MV × Option MH) := match args with
  | [.lit (.int .u64 a)] => bif decide (0 ≤ a) && decide (a < 18446744073709551616) then fVk (i64 (lenM a)) (fun v => some (v, none)) else none
  | _ => none
theorem k_73_spec {args : List MV} {H : MH} {r : MV × Option MH} (h : k_73 args H = some r) : Spec Tryz.prog 73 args H fun v' H' => v' = r.1 ∧ H' = r.2.getD H := by
  unfold k_73 at h
  split at h
  · rename_i a
    simp only [fVk_eq] at h
    rw [Bool.cond_eq_ite] at h
    split at h
    · rename_i hc
      try simp only [Bool.and_eq_true, decide_eq_true_eq] at hc
      cases h
      exact len_spec hc H
    · cases h
  · cases h
def k_46 (args : List MV) (H : MH) : Option (MV × Option MH) := match args with
  | [.agg [.lit (.int .i64 r), .lit (.int .i64 c), .lit (.int .i64 s), .slice p 0 n z 1], .lit (.int .i64 i), .lit (.int .i64 k)] => match hget H p with
    | some ob => match decL ob.cells with
      | some D => bif decide (s = c) && decide (0 ≤ r) && decide (r ≤ 4096) && decide (0 ≤ c) && decide (c ≤ 4096) && decide (D.length = (r * c).toNat) && decide (D.length = n) then fI (atM r c c D i k) (fun x => some (u64 x, none)) else none
      | none => none
    | none => none
  | _ => none
theorem k_46_spec {args : List MV} {H : MH} {u : MV × Option MH} (h : k_46 args H = some u) : Spec Tryz.prog 46 args H fun v' H' => v' = u.1 ∧ H' = u.2.getD H := by
  unfold k_46 at h
  split at h
  · rename_i r c s p n z i k
    split at h
    · rename_i ob hob
      split at h
      · rename_i D hD
        simp only [fD_eq, fI_eq] at h
        rw [Bool.cond_eq_ite] at h
        split at h
        · rename_i hc
          simp only [Bool.and_eq_true, decide_eq_true_eq] at hc
          have hs := hc.1.1.1.1.1.1
          subst hs
          obtain ⟨cells, rw⟩ := ob
          have hcell := decL_eq hD
          simp only at hcell
          subst hcell
          have hp := hob
          cases h
          exact at_ok ⟨hc.1.1.1.1.1.2, hc.1.1.1.1.2, hc.1.1.1.2, hc.1.1.2, hc.1.2⟩ i k hp hc.2
        · cases h
      · cases h
    · cases h
  · cases h
def k_14 (args : List MV) (H : MH) : Option (MV × Option MH) := match args with
  | [.agg [.lit (.int .i64 r), .lit (.int .i64 c), .lit (.int .i64 s), .slice p 0 n z 1], .lit (.int .i64 i), .lit (.int .i64 k), .lit (.int .u64 b)] => match hget H p with
    | some ob => match decL ob.cells with
      | some D => bif decide (s = c) && decide (0 ≤ r) && decide (r ≤ 4096) && decide (0 ≤ c) && decide (c ≤ 4096) && decide (D.length = (r * c).toNat) && decide (D.length = n) then bif ob.rw then fD (setM r c c D i k b) (fun D => some (.tup [], some (H.set p (some ⟨D.map u64, true⟩)))) else none else none
      | none => none
    | none => none
  | _ => none
theorem k_14_spec {args : List MV} {H : MH} {u : MV × Option MH} (h : k_14 args H = some u) : Spec Tryz.prog 14 args H fun v' H' => v' = u.1 ∧ H' = u.2.getD H := by
  unfold k_14 at h
  split at h
  · rename_i r c s p n z i k b
    split at h
    · rename_i ob hob
      split at h
      · rename_i D hD
        simp only [fD_eq, fI_eq] at h
        rw [Bool.cond_eq_ite] at h
        split at h
        · rename_i hc
          simp only [Bool.and_eq_true, decide_eq_true_eq] at hc
          have hs := hc.1.1.1.1.1.1
          subst hs
          obtain ⟨cells, rw⟩ := ob
          have hcell := decL_eq hD
          simp only at hcell
          subst hcell
          cases rw with
          | false => cases h
          | true =>
            have hp := hob
            cases h
            exact set_ok ⟨hc.1.1.1.1.1.2, hc.1.1.1.1.2, hc.1.1.1.2, hc.1.1.2, hc.1.2⟩ i k b hp hc.2
        · cases h
      · cases h
    · cases h
  · cases h
def kn (f : FuncId) (args : List MV) (H : MH) : Option (MV × Option MH) := bif Nat.beq f 106 then k_106 args H else bif Nat.beq f 126 then k_126 args H else bif Nat.beq f 72 then k_72 args H else bif Nat.beq f 71 then k_71 args H else bif Nat.beq f 43 then k_43 args H else bif Nat.beq f 17 then k_17 args H else bif Nat.beq f 51 then k_51 args H else bif Nat.beq f 15 then k_15 args H else bif Nat.beq f 45 then k_45 args H else bif Nat.beq f 48 then k_48 args H else bif Nat.beq f 49 then k_49 args H else bif Nat.beq f 131 then k_131 args H else bif Nat.beq f 104 then k_104 args H else bif Nat.beq f 105 then k_105 args H else bif Nat.beq f 74 then k_74 args H else bif Nat.beq f 50 then k_50 args H else bif Nat.beq f 73 then k_73 args H else bif Nat.beq f 46 then k_46 args H else bif Nat.beq f 14 then k_14 args H else none
theorem kn_spec : ∀ f args H r, kn f args H = some r → Spec Tryz.prog f args H fun v' H' => v' = r.1 ∧ H' = r.2.getD H := by
  intro f args H r h
  unfold kn at h
  rw [beq_dec', Bool.cond_decide] at h
  split at h
  · rename_i hf
    subst hf
    exact k_106_spec h
  rw [beq_dec', Bool.cond_decide] at h
  split at h
  · rename_i hf
    subst hf
    exact k_126_spec h
  rw [beq_dec', Bool.cond_decide] at h
  split at h
  · rename_i hf
    subst hf
    exact k_72_spec h
  rw [beq_dec', Bool.cond_decide] at h
  split at h
  · rename_i hf
    subst hf
    exact k_71_spec h
  rw [beq_dec', Bool.cond_decide] at h
  split at h
  · rename_i hf
    subst hf
    exact k_43_spec h
  rw [beq_dec', Bool.cond_decide] at h
  split at h
  · rename_i hf
    subst hf
    exact k_17_spec h
  rw [beq_dec', Bool.cond_decide] at h
  split at h
  · rename_i hf
    subst hf
    exact k_51_spec h
  rw [beq_dec', Bool.cond_decide] at h
  split at h
  · rename_i hf
    subst hf
    exact k_15_spec h
  rw [beq_dec', Bool.cond_decide] at h
  split at h
  · rename_i hf
    subst hf
    exact k_45_spec h
  rw [beq_dec', Bool.cond_decide] at h
  split at h
  · rename_i hf
    subst hf
    exact k_48_spec h
  rw [beq_dec', Bool.cond_decide] at h
  split at h
  · rename_i hf
    subst hf
    exact k_49_spec h
  rw [beq_dec', Bool.cond_decide] at h
  split at h
  · rename_i hf
    subst hf
    exact k_131_spec h
  rw [beq_dec', Bool.cond_decide] at h
  split at h
  · rename_i hf
    subst hf
    exact k_104_spec h
  rw [beq_dec', Bool.cond_decide] at h
  split at h
  · rename_i hf
    subst hf
    exact k_105_spec h
  rw [beq_dec', Bool.cond_decide] at h
  split at h
  · rename_i hf
    subst hf
    exact k_74_spec h
  rw [beq_dec', Bool.cond_decide] at h
  split at h
  · rename_i hf
    subst hf
    exact k_50_spec h
  rw [beq_dec', Bool.cond_decide] at h
  split at h
  · rename_i hf
    subst hf
    exact k_73_spec h
  rw [beq_dec', Bool.cond_decide] at h
  split at h
  · rename_i hf
    subst hf
    exact k_46_spec h
  rw [beq_dec', Bool.cond_decide] at h
  split at h
  · rename_i hf
    subst hf
    exact k_14_spec h
  cases h
def roF (f : FuncId) : Bool := (match ((bif Nat.blt f 83 then (bif Nat.blt f 34 then (bif Nat.blt f 22 then (bif Nat.blt f 13 then (bif Nat.blt f 11 then (bif Nat.blt f 10 then (bif Nat.beq f 9 then some () else none) else (bif Nat.beq f 10 then some () else none)) else (bif Nat.blt f 12 then (bif Nat.beq f 11 then some () else none) else (bif Nat.beq f 12 then some () else none))) else (bif Nat.blt f 16 then (bif Nat.blt f 14 then (bif Nat.beq f 13 then some () else none) else (bif Nat.beq f 14 then some () else none)) else (bif Nat.blt f 18 then (bif Nat.beq f 16 then some () else none) else (bif Nat.beq f 18 then some () else none)))) else (bif Nat.blt f 30 then (bif Nat.blt f 25 then (bif Nat.blt f 24 then (bif Nat.beq f 22 then some () else none) else (bif Nat.beq f 24 then some () else none)) else (bif Nat.blt f 28 then (bif Nat.beq f 25 then some () else none) else (bif Nat.beq f 28 then some () else none))) else (bif Nat.blt f 32 then (bif Nat.blt f 31 then (bif Nat.beq f 30 then some () else none) else (bif Nat.beq f 31 then some () else none)) else (bif Nat.blt f 33 then (bif Nat.beq f 32 then some () else none) else (bif Nat.beq f 33 then some () else none))))) else (bif Nat.blt f 58 then (bif Nat.blt f 40 then (bif Nat.blt f 38 then (bif Nat.blt f 35 then (bif Nat.beq f 34 then some () else none) else (bif Nat.beq f 35 then some () else none)) else (bif Nat.blt f 39 then (bif Nat.beq f 38 then some () else none) else (bif Nat.beq f 39 then some () else none))) else (bif Nat.blt f 52 then (bif Nat.blt f 42 then (bif Nat.beq f 40 then some () else none) else (bif Nat.beq f 42 then some () else none)) else (bif Nat.blt f 54 then (bif Nat.beq f 52 then some () else none) else (bif Nat.beq f 54 then some () else none)))) else (bif Nat.blt f 66 then (bif Nat.blt f 62 then (bif Nat.blt f 60 then (bif Nat.beq f 58 then some () else none) else (bif Nat.beq f 60 then some () else none)) else (bif Nat.blt f 65 then (bif Nat.beq f 62 then some () else none) else (bif Nat.beq f 65 then some () else none))) else (bif Nat.blt f 68 then (bif Nat.blt f 67 then (bif Nat.beq f 66 then some () else none) else (bif Nat.beq f 67 then some () else none)) else (bif Nat.blt f 69 then (bif Nat.beq f 68 then some () else none) else (bif Nat.blt f 70 then (bif Nat.beq f 69 then some () else none) else (bif Nat.beq f 70 then some () else none))))))) else (bif Nat.blt f 111 then (bif Nat.blt f 93 then (bif Nat.blt f 88 then (bif Nat.blt f 85 then (bif Nat.blt f 84 then (bif Nat.beq f 83 then some () else none) else (bif Nat.beq f 84 then some () else none)) else (bif Nat.blt f 86 then (bif Nat.beq f 85 then some () else none) else (bif Nat.beq f 86 then some () else none))) else (bif Nat.blt f 90 then (bif Nat.blt f 89 then (bif Nat.beq f 88 then some () else none) else (bif Nat.beq f 89 then some () else none)) else (bif Nat.blt f 92 then (bif Nat.beq f 90 then some () else none) else (bif Nat.beq f 92 then some () else none)))) else (bif Nat.blt f 99 then (bif Nat.blt f 95 then (bif Nat.blt f 94 then (bif Nat.beq f 93 then some () else none) else (bif Nat.beq f 94 then some () else none)) else (bif Nat.blt f 97 then (bif Nat.beq f 95 then some () else none) else (bif Nat.beq f 97 then some () else none))) else (bif Nat.blt f 108 then (bif Nat.blt f 107 then (bif Nat.beq f 99 then some () else none) else (bif Nat.beq f 107 then some () else none)) else (bif Nat.blt f 109 then (bif Nat.beq f 108 then some () else none) else (bif Nat.blt f 110 then (bif Nat.beq f 109 then some () else none) else (bif Nat.beq f 110 then some () else none)))))) else (bif Nat.blt f 123 then (bif Nat.blt f 117 then (bif Nat.blt f 114 then (bif Nat.blt f 113 then (bif Nat.beq f 111 then some () else none) else (bif Nat.beq f 113 then some () else none)) else (bif Nat.blt f 117 then (bif Nat.beq f 114 then some () else none) else (bif Nat.beq f 117 then some () else none))) else (bif Nat.blt f 120 then (bif Nat.blt f 118 then (bif Nat.beq f 117 then some () else none) else (bif Nat.beq f 118 then some () else none)) else (bif Nat.blt f 122 then (bif Nat.beq f 120 then some () else none) else (bif Nat.beq f 122 then some () else none)))) else (bif Nat.blt f 132 then (bif Nat.blt f 125 then (bif Nat.blt f 124 then (bif Nat.beq f 123 then some () else none) else (bif Nat.beq f 124 then some () else none)) else (bif Nat.blt f 130 then (bif Nat.beq f 125 then some () else none) else (bif Nat.beq f 130 then some () else none))) else (bif Nat.blt f 136 then (bif Nat.blt f 134 then (bif Nat.beq f 132 then some () else none) else (bif Nat.beq f 134 then some () else none)) else (bif Nat.blt f 137 then (bif Nat.beq f 136 then some () else none) else (bif Nat.blt f 138 then (bif Nat.beq f 137 then some () else none) else (bif Nat.beq f 138 then some () else none)))))))) : Option Unit) with | some _ => false | none => true)
def iso (f : FuncId) : Bool := !(Nat.beq f 65) && !(Nat.beq f 136) && !(Nat.beq f 137) && !(Nat.beq f 94) && !(Nat.beq f 124) && !(Nat.beq f 13) && !(Nat.beq f 84) && !(Nat.beq f 107) && !(Nat.beq f 22) && !(Nat.beq f 111)
theorem fok : FOk Tryz.prog pls := by
  have h : Tryz.prog.funcs.all (fun fn => !(fn.name == "runtime.NumGoroutine") && (match fn.body with | some c => codeOk fn.ntmps c | none => true)) = true := by decide +kernel
  intro f fn c hf hb
  have := Array.all_eq_true_iff_forall_mem.1 h fn (Array.mem_of_getElem? hf)
  simp only [Bool.and_eq_true, hb] at this
  refine ⟨by simpa using this.1, this.2, ?_⟩
  by_cases h4 : f = 4
  · subst h4
    have h := plok_4
    rw [hf, Option.bind_some, hb, Option.all_some] at h
    have e : pls 4 = pl_4 := by funext i; rfl
    rw [e]; exact h
  by_cases h5 : f = 5
  · subst h5
    have h := plok_5
    rw [hf, Option.bind_some, hb, Option.all_some] at h
    have e : pls 5 = pl_5 := by funext i; rfl
    rw [e]; exact h
  by_cases h6 : f = 6
  · subst h6
    have h := plok_6
    rw [hf, Option.bind_some, hb, Option.all_some] at h
    have e : pls 6 = pl_6 := by funext i; rfl
    rw [e]; exact h
  by_cases h9 : f = 9
  · subst h9
    have h := plok_9
    rw [hf, Option.bind_some, hb, Option.all_some] at h
    have e : pls 9 = pl_9 := by funext i; rfl
    rw [e]; exact h
  by_cases h10 : f = 10
  · subst h10
    have h := plok_10
    rw [hf, Option.bind_some, hb, Option.all_some] at h
    have e : pls 10 = pl_10 := by funext i; rfl
    rw [e]; exact h
  by_cases h16 : f = 16
  · subst h16
    have h := plok_16
    rw [hf, Option.bind_some, hb, Option.all_some] at h
    have e : pls 16 = pl_16 := by funext i; rfl
    rw [e]; exact h
  by_cases h22 : f = 22
  · subst h22
    have h := plok_22
    rw [hf, Option.bind_some, hb, Option.all_some] at h
    have e : pls 22 = pl_22 := by funext i; rfl
    rw [e]; exact h
  by_cases h24 : f = 24
  · subst h24
    have h := plok_24
    rw [hf, Option.bind_some, hb, Option.all_some] at h
    have e : pls 24 = pl_24 := by funext i; rfl
    rw [e]; exact h
  by_cases h25 : f = 25
  · subst h25
    have h := plok_25
    rw [hf, Option.bind_some, hb, Option.all_some] at h
    have e : pls 25 = pl_25 := by funext i; rfl
    rw [e]; exact h
  by_cases h28 : f = 28
  · subst h28
    have h := plok_28
    rw [hf, Option.bind_some, hb, Option.all_some] at h
    have e : pls 28 = pl_28 := by funext i; rfl
    rw [e]; exact h
  by_cases h30 : f = 30
  · subst h30
    have h := plok_30
    rw [hf, Option.bind_some, hb, Option.all_some] at h
    have e : pls 30 = pl_30 := by funext i; rfl
    rw [e]; exact h
  by_cases h31 : f = 31
  · subst h31
    have h := plok_31
    rw [hf, Option.bind_some, hb, Option.all_some] at h
    have e : pls 31 = pl_31 := by funext i; rfl
    rw [e]; exact h
  by_cases h32 : f = 32
  · subst h32
    have h := plok_32
    rw [hf, Option.bind_some, hb, Option.all_some] at h
    have e : pls 32 = pl_32 := by funext i; rfl
    rw [e]; exact h
  by_cases h34 : f = 34
  · subst h34
    have h := plok_34
    rw [hf, Option.bind_some, hb, Option.all_some] at h
    have e : pls 34 = pl_34 := by funext i; rfl
    rw [e]; exact h
  by_cases h35 : f = 35
  · subst h35
    have h := plok_35
    rw [hf, Option.bind_some, hb, Option.all_some] at h
    have e : pls 35 = pl_35 := by funext i; rfl
    rw [e]; exact h
  by_cases h52 : f = 52
  · subst h52
    have h := plok_52
    rw [hf, Option.bind_some, hb, Option.all_some] at h
    have e : pls 52 = pl_52 := by funext i; rfl
    rw [e]; exact h
  by_cases h53 : f = 53
  · subst h53
    have h := plok_53
    rw [hf, Option.bind_some, hb, Option.all_some] at h
    have e : pls 53 = pl_53 := by funext i; rfl
    rw [e]; exact h
  by_cases h54 : f = 54
  · subst h54
    have h := plok_54
    rw [hf, Option.bind_some, hb, Option.all_some] at h
    have e : pls 54 = pl_54 := by funext i; rfl
    rw [e]; exact h
  by_cases h56 : f = 56
  · subst h56
    have h := plok_56
    rw [hf, Option.bind_some, hb, Option.all_some] at h
    have e : pls 56 = pl_56 := by funext i; rfl
    rw [e]; exact h
  by_cases h57 : f = 57
  · subst h57
    have h := plok_57
    rw [hf, Option.bind_some, hb, Option.all_some] at h
    have e : pls 57 = pl_57 := by funext i; rfl
    rw [e]; exact h
  by_cases h58 : f = 58
  · subst h58
    have h := plok_58
    rw [hf, Option.bind_some, hb, Option.all_some] at h
    have e : pls 58 = pl_58 := by funext i; rfl
    rw [e]; exact h
  by_cases h59 : f = 59
  · subst h59
    have h := plok_59
    rw [hf, Option.bind_some, hb, Option.all_some] at h
    have e : pls 59 = pl_59 := by funext i; rfl
    rw [e]; exact h
  by_cases h62 : f = 62
  · subst h62
    have h := plok_62
    rw [hf, Option.bind_some, hb, Option.all_some] at h
    have e : pls 62 = pl_62 := by funext i; rfl
    rw [e]; exact h
  by_cases h64 : f = 64
  · subst h64
    have h := plok_64
    rw [hf, Option.bind_some, hb, Option.all_some] at h
    have e : pls 64 = pl_64 := by funext i; rfl
    rw [e]; exact h
  by_cases h66 : f = 66
  · subst h66
    have h := plok_66
    rw [hf, Option.bind_some, hb, Option.all_some] at h
    have e : pls 66 = pl_66 := by funext i; rfl
    rw [e]; exact h
  by_cases h68 : f = 68
  · subst h68
    have h := plok_68
    rw [hf, Option.bind_some, hb, Option.all_some] at h
    have e : pls 68 = pl_68 := by funext i; rfl
    rw [e]; exact h
  by_cases h69 : f = 69
  · subst h69
    have h := plok_69
    rw [hf, Option.bind_some, hb, Option.all_some] at h
    have e : pls 69 = pl_69 := by funext i; rfl
    rw [e]; exact h
  by_cases h71 : f = 71
  · subst h71
    have h := plok_71
    rw [hf, Option.bind_some, hb, Option.all_some] at h
    have e : pls 71 = pl_71 := by funext i; rfl
    rw [e]; exact h
  by_cases h74 : f = 74
  · subst h74
    have h := plok_74
    rw [hf, Option.bind_some, hb, Option.all_some] at h
    have e : pls 74 = pl_74 := by funext i; rfl
    rw [e]; exact h
  by_cases h75 : f = 75
  · subst h75
    have h := plok_75
    rw [hf, Option.bind_some, hb, Option.all_some] at h
    have e : pls 75 = pl_75 := by funext i; rfl
    rw [e]; exact h
  by_cases h80 : f = 80
  · subst h80
    have h := plok_80
    rw [hf, Option.bind_some, hb, Option.all_some] at h
    have e : pls 80 = pl_80 := by funext i; rfl
    rw [e]; exact h
  by_cases h85 : f = 85
  · subst h85
    have h := plok_85
    rw [hf, Option.bind_some, hb, Option.all_some] at h
    have e : pls 85 = pl_85 := by funext i; rfl
    rw [e]; exact h
  by_cases h86 : f = 86
  · subst h86
    have h := plok_86
    rw [hf, Option.bind_some, hb, Option.all_some] at h
    have e : pls 86 = pl_86 := by funext i; rfl
    rw [e]; exact h
  by_cases h87 : f = 87
  · subst h87
    have h := plok_87
    rw [hf, Option.bind_some, hb, Option.all_some] at h
    have e : pls 87 = pl_87 := by funext i; rfl
    rw [e]; exact h
  by_cases h88 : f = 88
  · subst h88
    have h := plok_88
    rw [hf, Option.bind_some, hb, Option.all_some] at h
    have e : pls 88 = pl_88 := by funext i; rfl
    rw [e]; exact h
  by_cases h92 : f = 92
  · subst h92
    have h := plok_92
    rw [hf, Option.bind_some, hb, Option.all_some] at h
    have e : pls 92 = pl_92 := by funext i; rfl
    rw [e]; exact h
  by_cases h93 : f = 93
  · subst h93
    have h := plok_93
    rw [hf, Option.bind_some, hb, Option.all_some] at h
    have e : pls 93 = pl_93 := by funext i; rfl
    rw [e]; exact h
  by_cases h95 : f = 95
  · subst h95
    have h := plok_95
    rw [hf, Option.bind_some, hb, Option.all_some] at h
    have e : pls 95 = pl_95 := by funext i; rfl
    rw [e]; exact h
  by_cases h96 : f = 96
  · subst h96
    have h := plok_96
    rw [hf, Option.bind_some, hb, Option.all_some] at h
    have e : pls 96 = pl_96 := by funext i; rfl
    rw [e]; exact h
  by_cases h109 : f = 109
  · subst h109
    have h := plok_109
    rw [hf, Option.bind_some, hb, Option.all_some] at h
    have e : pls 109 = pl_109 := by funext i; rfl
    rw [e]; exact h
  by_cases h110 : f = 110
  · subst h110
    have h := plok_110
    rw [hf, Option.bind_some, hb, Option.all_some] at h
    have e : pls 110 = pl_110 := by funext i; rfl
    rw [e]; exact h
  by_cases h112 : f = 112
  · subst h112
    have h := plok_112
    rw [hf, Option.bind_some, hb, Option.all_some] at h
    have e : pls 112 = pl_112 := by funext i; rfl
    rw [e]; exact h
  by_cases h114 : f = 114
  · subst h114
    have h := plok_114
    rw [hf, Option.bind_some, hb, Option.all_some] at h
    have e : pls 114 = pl_114 := by funext i; rfl
    rw [e]; exact h
  by_cases h116 : f = 116
  · subst h116
    have h := plok_116
    rw [hf, Option.bind_some, hb, Option.all_some] at h
    have e : pls 116 = pl_116 := by funext i; rfl
    rw [e]; exact h
  by_cases h117 : f = 117
  · subst h117
    have h := plok_117
    rw [hf, Option.bind_some, hb, Option.all_some] at h
    have e : pls 117 = pl_117 := by funext i; rfl
    rw [e]; exact h
  by_cases h118 : f = 118
  · subst h118
    have h := plok_118
    rw [hf, Option.bind_some, hb, Option.all_some] at h
    have e : pls 118 = pl_118 := by funext i; rfl
    rw [e]; exact h
  by_cases h119 : f = 119
  · subst h119
    have h := plok_119
    rw [hf, Option.bind_some, hb, Option.all_some] at h
    have e : pls 119 = pl_119 := by funext i; rfl
    rw [e]; exact h
  by_cases h120 : f = 120
  · subst h120
    have h := plok_120
    rw [hf, Option.bind_some, hb, Option.all_some] at h
    have e : pls 120 = pl_120 := by funext i; rfl
    rw [e]; exact h
  by_cases h122 : f = 122
  · subst h122
    have h := plok_122
    rw [hf, Option.bind_some, hb, Option.all_some] at h
    have e : pls 122 = pl_122 := by funext i; rfl
    rw [e]; exact h
  by_cases h125 : f = 125
  · subst h125
    have h := plok_125
    rw [hf, Option.bind_some, hb, Option.all_some] at h
    have e : pls 125 = pl_125 := by funext i; rfl
    rw [e]; exact h
  by_cases h128 : f = 128
  · subst h128
    have h := plok_128
    rw [hf, Option.bind_some, hb, Option.all_some] at h
    have e : pls 128 = pl_128 := by funext i; rfl
    rw [e]; exact h
  by_cases h130 : f = 130
  · subst h130
    have h := plok_130
    rw [hf, Option.bind_some, hb, Option.all_some] at h
    have e : pls 130 = pl_130 := by funext i; rfl
    rw [e]; exact h
  by_cases h133 : f = 133
  · subst h133
    have h := plok_133
    rw [hf, Option.bind_some, hb, Option.all_some] at h
    have e : pls 133 = pl_133 := by funext i; rfl
    rw [e]; exact h
  by_cases h134 : f = 134
  · subst h134
    have h := plok_134
    rw [hf, Option.bind_some, hb, Option.all_some] at h
    have e : pls 134 = pl_134 := by funext i; rfl
    rw [e]; exact h
  by_cases h138 : f = 138
  · subst h138
    have h := plok_138
    rw [hf, Option.bind_some, hb, Option.all_some] at h
    have e : pls 138 = pl_138 := by funext i; rfl
    rw [e]; exact h
  by_cases h140 : f = 140
  · subst h140
    have h := plok_140
    rw [hf, Option.bind_some, hb, Option.all_some] at h
    have e : pls 140 = pl_140 := by funext i; rfl
    rw [e]; exact h
  by_cases h141 : f = 141
  · subst h141
    have h := plok_141
    rw [hf, Option.bind_some, hb, Option.all_some] at h
    have e : pls 141 = pl_141 := by funext i; rfl
    rw [e]; exact h
  by_cases h142 : f = 142
  · subst h142
    have h := plok_142
    rw [hf, Option.bind_some, hb, Option.all_some] at h
    have e : pls 142 = pl_142 := by funext i; rfl
    rw [e]; exact h
  exact plOk_none (fun i => by simp only [pls, beq_dec', h4, h5, h6, h9, h10, h16, h22, h24, h25, h28, h30, h31, h32, h34, h35, h52, h53, h54, h56, h57, h58, h59, h62, h64, h66, h68, h69, h71, h74, h75, h80, h85, h86, h87, h88, h92, h93, h95, h96, h109, h110, h112, h114, h116, h117, h118, h119, h120, h122, h125, h128, h130, h133, h134, h138, h140, h141, h142, decide_false, cond_false]) c
theorem runs {f : FuncId} {args : List MV} {r : MV} (N n : Nat) (hcl : clBs args = true) (hcr : clB r = true) (h : ∀ σ, (match callE Tryz.prog pls kn iso roF N n f args [] σ 0 with | some ((v, _), _) => eqB v r | none => false) = true) (H : MH) :
    Spec Tryz.prog f args H fun v H' => v = r ∧ H' = H := run_bool follows pls fok N n kn_spec iso roF hcl hcr h H
end Go.Proofs.YtaojabgaebbckaaGreatDoor.M
