/- What a run by the kernel needs of this seat. -/
import Derived.Test.YtdbngjlhcjjhbaaGreatDoorM19
import Derived.Test.YtdbngjlhcjjhbaaGreatDoorC11
set_option linter.unusedSimpArgs false
set_option linter.unusedVariables false
set_option maxRecDepth 10000
namespace Go.Proofs.YtdbngjlhcjjhbaaGreatDoor.M
open Go Go.Proofs
def pl_3 (i : Nat) : Option (List (Nat × List Nat) × List Nat) := (bif Nat.blt i 18 then (bif Nat.beq i 9 then some ([(0, []), (1, []), (3, []), (9, []), (10, []), (2, [0, 9, 10]), (4, [9, 10]), (5, []), (6, []), (7, []), (8, []), (11, []), (12, []), (13, [])], [0, 9, 10]) else none) else (bif Nat.blt i 20 then (bif Nat.beq i 18 then some ([(0, []), (1, []), (2, []), (4, []), (5, []), (6, []), (3, [4]), (7, []), (8, [])], [4]) else none) else (bif Nat.beq i 20 then some ([(0, []), (1, []), (2, []), (3, []), (4, []), (5, []), (6, []), (7, []), (8, []), (10, []), (11, []), (12, []), (13, []), (9, [10]), (14, []), (15, []), (16, []), (17, [])], [10]) else none)))
def pl_4 (i : Nat) : Option (List (Nat × List Nat) × List Nat) := (bif Nat.beq i 9 then some ([(0, []), (1, []), (3, []), (10, []), (11, []), (2, [0, 10, 11]), (4, [10, 11]), (5, []), (6, []), (7, []), (8, []), (9, []), (12, []), (13, []), (14, []), (15, [])], [0, 10, 11]) else none)
def pl_5 (i : Nat) : Option (List (Nat × List Nat) × List Nat) := (bif Nat.blt i 14 then (bif Nat.blt i 10 then (bif Nat.beq i 9 then some ([(0, []), (1, []), (2, []), (3, []), (4, []), (5, []), (7, []), (13, []), (14, []), (6, [0, 13, 14]), (8, [13, 14]), (9, []), (10, []), (11, []), (12, []), (15, []), (16, []), (17, [])], [0, 13, 14]) else none) else (bif Nat.blt i 13 then (bif Nat.beq i 10 then some ([(0, []), (1, []), (2, []), (3, []), (4, []), (5, []), (7, []), (8, []), (15, []), (16, []), (6, [0, 8, 15, 16]), (9, [15, 16]), (10, []), (11, []), (12, []), (13, []), (14, []), (17, []), (18, []), (19, []), (20, [])], [0, 8, 15, 16]) else none) else (bif Nat.beq i 13 then some ([(0, []), (1, []), (3, []), (9, []), (10, []), (2, [3, 9, 10]), (4, [9, 10]), (5, []), (6, []), (7, []), (8, []), (11, []), (12, []), (13, [])], [3, 9, 10]) else none))) else (bif Nat.blt i 15 then (bif Nat.beq i 14 then some ([(0, []), (1, []), (3, []), (4, []), (5, []), (12, []), (13, []), (2, [0, 5, 12, 13]), (6, [12, 13]), (7, []), (8, []), (9, []), (10, []), (11, []), (14, []), (15, []), (16, []), (17, [])], [0, 5, 12, 13]) else none) else (bif Nat.blt i 16 then (bif Nat.beq i 15 then some ([(0, []), (1, []), (3, []), (4, []), (11, []), (12, []), (2, [0, 4, 11, 12]), (5, [11, 12]), (6, []), (7, []), (8, []), (9, []), (10, []), (13, []), (14, []), (15, []), (16, [])], [0, 4, 11, 12]) else none) else (bif Nat.beq i 16 then some ([(0, []), (1, []), (2, []), (3, []), (4, []), (5, []), (6, []), (7, []), (8, []), (9, []), (10, []), (11, []), (12, []), (13, []), (14, []), (15, []), (16, []), (17, []), (18, []), (19, []), (20, []), (21, []), (22, []), (23, []), (24, []), (25, []), (26, []), (27, []), (28, []), (29, []), (30, [28]), (31, []), (32, []), (33, [])], [28]) else none))))
def pl_6 (i : Nat) : Option (List (Nat × List Nat) × List Nat) := (bif Nat.beq i 4 then some ([(0, []), (7, []), (8, []), (1, [0, 7, 8]), (2, [7, 8]), (3, []), (4, []), (5, []), (6, []), (9, []), (10, []), (11, [])], [0, 7, 8]) else none)
def pl_7 (i : Nat) : Option (List (Nat × List Nat) × List Nat) := (bif Nat.blt i 15 then (bif Nat.beq i 9 then some ([(0, []), (1, []), (2, []), (3, []), (4, []), (5, []), (6, []), (7, []), (8, []), (9, []), (10, []), (11, []), (12, []), (13, []), (14, [])], []) else none) else (bif Nat.blt i 19 then (bif Nat.beq i 15 then some ([(0, []), (1, []), (2, []), (3, []), (4, []), (5, []), (6, []), (7, []), (8, [0]), (9, [])], [0]) else none) else (bif Nat.beq i 19 then some ([(0, []), (1, []), (2, []), (3, []), (4, []), (5, []), (6, [0]), (7, [0]), (8, [])], [0]) else none)))
def pl_9 (i : Nat) : Option (List (Nat × List Nat) × List Nat) := (bif Nat.beq i 10 then some ([(0, []), (1, []), (2, []), (3, []), (4, []), (5, []), (8, []), (9, []), (6, [9]), (7, []), (10, []), (11, [])], [9]) else none)
def pl_12 (i : Nat) : Option (List (Nat × List Nat) × List Nat) := (bif Nat.blt i 21 then (bif Nat.blt i 20 then (bif Nat.beq i 6 then some ([(0, []), (2, []), (1, [2]), (3, []), (4, []), (5, [])], [2]) else none) else (bif Nat.beq i 20 then some ([(0, []), (1, []), (2, []), (3, []), (4, [1]), (5, []), (6, []), (7, [])], [1]) else none)) else (bif Nat.blt i 24 then (bif Nat.beq i 21 then some ([(0, []), (1, []), (2, []), (3, []), (4, [2]), (5, [])], [2]) else none) else (bif Nat.beq i 24 then some ([(0, []), (1, []), (2, []), (3, [1]), (4, []), (5, []), (6, [])], [1]) else none)))
def pl_15 (i : Nat) : Option (List (Nat × List Nat) × List Nat) := (bif Nat.beq i 9 then some ([(0, []), (1, []), (2, []), (4, []), (5, []), (6, []), (3, [4]), (7, []), (8, [])], [4]) else none)
def pl_20 (i : Nat) : Option (List (Nat × List Nat) × List Nat) := (bif Nat.beq i 16 then some ([(0, []), (1, []), (2, []), (4, []), (5, []), (6, []), (7, []), (8, []), (3, [4]), (9, []), (10, []), (11, []), (12, []), (13, []), (14, []), (15, []), (16, []), (17, []), (19, []), (20, []), (21, []), (22, []), (18, [19]), (23, []), (24, []), (25, []), (26, [])], [4, 19]) else none)
def pl_25 (i : Nat) : Option (List (Nat × List Nat) × List Nat) := (bif Nat.beq i 1 then some ([(0, []), (2, []), (1, [2]), (3, []), (4, []), (5, [])], [2]) else none)
def pl_27 (i : Nat) : Option (List (Nat × List Nat) × List Nat) := (bif Nat.beq i 8 then some ([(0, []), (1, []), (2, []), (3, []), (4, []), (5, []), (6, [0]), (7, [])], [0]) else none)
def pl_34 (i : Nat) : Option (List (Nat × List Nat) × List Nat) := (bif Nat.beq i 9 then some ([(0, []), (1, []), (2, []), (4, []), (5, []), (6, []), (7, []), (9, []), (10, []), (11, []), (12, []), (14, []), (15, []), (16, []), (17, []), (18, []), (21, []), (3, [4, 9, 14, 21]), (8, [9, 14, 21]), (13, [14, 21]), (19, [21]), (20, []), (22, [])], [4, 9, 14, 21]) else none)
def pl_36 (i : Nat) : Option (List (Nat × List Nat) × List Nat) := (bif Nat.blt i 11 then (bif Nat.beq i 2 then some ([(0, []), (1, []), (2, []), (4, []), (5, []), (6, []), (7, []), (9, []), (10, []), (11, []), (12, []), (13, []), (3, [4, 9]), (8, [9]), (14, []), (15, []), (16, []), (17, [])], [4, 9]) else none) else (bif Nat.beq i 11 then some ([(0, []), (1, []), (2, [1]), (3, []), (4, [])], [1]) else none))
def pl_37 (i : Nat) : Option (List (Nat × List Nat) × List Nat) := (bif Nat.blt i 68 then (bif Nat.beq i 18 then some ([(0, []), (1, []), (2, []), (3, []), (4, []), (5, []), (6, [0]), (7, [0]), (8, [])], [0]) else none) else (bif Nat.beq i 68 then some ([(0, []), (1, []), (2, [1]), (3, []), (4, [])], [1]) else none))
def pl_41 (i : Nat) : Option (List (Nat × List Nat) × List Nat) := (bif Nat.beq i 3 then some ([(0, []), (1, []), (2, []), (3, []), (4, []), (5, []), (6, []), (7, []), (8, []), (9, []), (10, []), (11, []), (12, []), (13, []), (15, []), (16, []), (14, [16]), (17, []), (18, []), (19, []), (20, [])], [16]) else none)
def pl_42 (i : Nat) : Option (List (Nat × List Nat) × List Nat) := (bif Nat.beq i 9 then some ([(0, []), (1, []), (2, []), (3, []), (5, []), (6, []), (7, []), (8, []), (11, []), (4, [7, 11]), (9, [11]), (10, []), (12, [])], [7, 11]) else none)
def pl_44 (i : Nat) : Option (List (Nat × List Nat) × List Nat) := (bif Nat.blt i 16 then (bif Nat.beq i 6 then some ([(0, []), (1, []), (2, []), (3, []), (5, []), (6, []), (7, []), (8, []), (4, [0, 5]), (9, [0]), (10, []), (11, []), (12, []), (13, []), (14, []), (15, [])], [0, 5]) else none) else (bif Nat.beq i 16 then some ([(0, []), (1, []), (2, []), (3, []), (5, []), (6, []), (7, []), (8, []), (4, [0, 5]), (9, [0]), (10, []), (11, []), (12, []), (13, []), (14, []), (15, [])], [0, 5]) else none))
def pl_45 (i : Nat) : Option (List (Nat × List Nat) × List Nat) := (bif Nat.beq i 10 then some ([(0, []), (1, []), (2, []), (3, []), (4, []), (5, []), (6, []), (7, []), (8, []), (9, []), (10, [0]), (11, [])], [0]) else none)
def pl_46 (i : Nat) : Option (List (Nat × List Nat) × List Nat) := (bif Nat.blt i 23 then (bif Nat.beq i 16 then some ([(0, []), (1, []), (2, []), (3, []), (5, []), (6, []), (7, []), (9, []), (10, []), (11, []), (12, []), (14, []), (4, [9, 10, 11, 14]), (8, []), (13, []), (15, [])], [9, 10, 11, 14]) else none) else (bif Nat.beq i 23 then some ([(0, []), (1, []), (2, []), (3, []), (4, []), (5, []), (6, []), (7, []), (9, []), (10, []), (11, []), (12, []), (13, []), (14, []), (15, []), (16, []), (8, [3, 12, 16]), (17, [3, 12]), (18, []), (19, [])], [3, 12, 16]) else none))
def pl_48 (i : Nat) : Option (List (Nat × List Nat) × List Nat) := (bif Nat.blt i 23 then (bif Nat.beq i 12 then some ([(0, []), (1, []), (3, []), (4, []), (5, []), (2, [5]), (6, [5]), (7, []), (8, []), (9, [])], [5]) else none) else (bif Nat.beq i 23 then some ([(0, []), (1, []), (2, []), (3, []), (4, [1]), (5, []), (6, []), (7, []), (8, [])], [1]) else none))
def pl_49 (i : Nat) : Option (List (Nat × List Nat) × List Nat) := (bif Nat.beq i 19 then some ([(0, []), (1, []), (2, []), (3, []), (4, []), (5, []), (6, []), (7, []), (8, []), (9, []), (10, []), (12, []), (13, []), (14, []), (11, [0]), (15, [0]), (16, [0]), (17, [])], [0]) else none)
def pl_50 (i : Nat) : Option (List (Nat × List Nat) × List Nat) := (bif Nat.blt i 7 then (bif Nat.beq i 6 then some ([(0, []), (1, []), (2, [1]), (3, [])], [1]) else none) else (bif Nat.beq i 7 then some ([(0, []), (1, []), (2, [1]), (3, [])], [1]) else none))
def pl_51 (i : Nat) : Option (List (Nat × List Nat) × List Nat) := (bif Nat.blt i 14 then (bif Nat.beq i 11 then some ([(0, []), (1, []), (2, []), (3, [0]), (4, []), (5, [])], [0]) else none) else (bif Nat.beq i 14 then some ([(0, []), (1, []), (3, []), (5, []), (2, [0, 3, 5]), (4, [0, 5]), (6, [0]), (7, []), (8, []), (9, [])], [0, 3, 5]) else none))
def pl_52 (i : Nat) : Option (List (Nat × List Nat) × List Nat) := (bif Nat.beq i 2 then some ([(0, []), (1, []), (2, []), (4, []), (5, []), (6, []), (7, []), (9, []), (10, []), (11, []), (12, []), (14, []), (15, []), (16, []), (17, []), (18, []), (27, []), (28, []), (3, [4, 9, 14, 27, 28]), (8, [9, 14, 27, 28]), (13, [14, 27, 28]), (19, [27, 28]), (20, []), (21, [27, 28]), (22, []), (23, []), (24, []), (25, []), (26, []), (29, []), (30, []), (31, []), (32, [])], [4, 9, 14, 27, 28]) else none)
def pl_59 (i : Nat) : Option (List (Nat × List Nat) × List Nat) := (bif Nat.beq i 1 then some ([(0, []), (1, []), (2, []), (3, []), (4, []), (6, []), (7, []), (8, []), (9, []), (12, []), (13, []), (14, []), (15, []), (16, []), (18, []), (19, []), (20, []), (21, []), (5, [8, 15, 20]), (10, [15, 20]), (11, [15, 20]), (17, [20]), (22, []), (23, []), (24, []), (25, [])], [8, 15, 20]) else none)
def pl_60 (i : Nat) : Option (List (Nat × List Nat) × List Nat) := (bif Nat.beq i 1 then some ([(0, []), (4, []), (1, [4]), (2, []), (3, [4]), (5, []), (6, []), (7, []), (8, []), (9, []), (10, []), (11, []), (12, [])], [4]) else none)
def pl_62 (i : Nat) : Option (List (Nat × List Nat) × List Nat) := (bif Nat.blt i 24 then (bif Nat.blt i 14 then (bif Nat.beq i 3 then some ([(0, []), (1, []), (2, []), (3, []), (4, []), (5, []), (7, []), (8, []), (9, []), (10, []), (11, []), (6, [10, 11]), (12, [10]), (13, [])], [10, 11]) else none) else (bif Nat.blt i 22 then (bif Nat.beq i 14 then some ([(0, []), (1, []), (2, []), (3, []), (4, []), (5, []), (6, []), (7, []), (8, []), (9, []), (10, []), (11, []), (12, []), (13, []), (15, []), (16, []), (17, []), (18, []), (19, []), (20, []), (21, []), (22, []), (23, []), (24, []), (14, [0, 18]), (25, [0]), (26, [0]), (27, [])], [0, 18]) else none) else (bif Nat.beq i 22 then some ([(0, []), (1, []), (2, []), (3, []), (4, []), (5, []), (6, []), (7, []), (8, []), (9, []), (10, []), (11, []), (12, []), (13, []), (15, []), (14, [0]), (16, [0]), (17, [])], [0]) else none))) else (bif Nat.blt i 32 then (bif Nat.blt i 28 then (bif Nat.beq i 24 then some ([(0, []), (1, []), (2, []), (3, []), (4, []), (5, []), (6, []), (7, []), (8, []), (9, []), (11, []), (12, []), (13, []), (14, []), (15, []), (10, [14]), (16, []), (17, []), (18, []), (19, []), (20, []), (21, [])], [14]) else none) else (bif Nat.beq i 28 then some ([(0, []), (1, []), (2, []), (3, []), (4, []), (5, []), (6, []), (7, []), (8, []), (10, []), (11, []), (12, []), (13, []), (14, []), (15, []), (16, []), (17, []), (18, []), (9, [14]), (19, []), (20, []), (21, []), (22, [])], [14]) else none)) else (bif Nat.blt i 49 then (bif Nat.beq i 32 then some ([(0, []), (1, []), (2, []), (3, []), (4, []), (5, []), (6, []), (7, []), (8, []), (10, []), (11, []), (12, []), (13, []), (14, []), (15, []), (16, []), (17, []), (9, [13]), (18, []), (19, []), (20, [])], [13]) else none) else (bif Nat.beq i 49 then some ([(0, []), (1, []), (2, []), (3, []), (4, []), (5, []), (6, []), (7, []), (8, []), (9, []), (10, []), (11, []), (12, []), (13, []), (14, []), (15, []), (16, []), (17, []), (18, []), (19, [])], []) else none))))
def pl_68 (i : Nat) : Option (List (Nat × List Nat) × List Nat) := (bif Nat.beq i 3 then some ([(0, []), (1, []), (2, []), (4, []), (9, []), (3, [0, 9]), (5, [9]), (6, []), (7, []), (8, []), (10, []), (11, [])], [0, 9]) else none)
def pl_70 (i : Nat) : Option (List (Nat × List Nat) × List Nat) := (bif Nat.blt i 25 then (bif Nat.beq i 19 then some ([(0, []), (1, []), (2, []), (3, []), (4, []), (5, []), (7, []), (6, [1]), (8, []), (9, [])], [1]) else none) else (bif Nat.beq i 25 then some ([(0, []), (1, []), (2, []), (3, []), (4, []), (5, []), (6, [])], []) else none))
def pl_75 (i : Nat) : Option (List (Nat × List Nat) × List Nat) := (bif Nat.beq i 9 then some ([(0, []), (1, []), (2, []), (3, [0]), (4, []), (5, [])], [0]) else none)
def pl_76 (i : Nat) : Option (List (Nat × List Nat) × List Nat) := (bif Nat.blt i 18 then (bif Nat.blt i 11 then (bif Nat.beq i 10 then some ([(0, []), (1, []), (2, []), (3, []), (4, []), (5, []), (6, []), (7, []), (8, [2, 4, 6]), (9, []), (10, []), (11, [])], [2, 4, 6]) else none) else (bif Nat.beq i 11 then some ([(0, []), (2, []), (1, [2]), (3, []), (4, [])], [2]) else none)) else (bif Nat.blt i 21 then (bif Nat.beq i 18 then some ([(0, []), (1, []), (2, []), (3, []), (4, []), (5, []), (6, []), (7, []), (8, []), (9, []), (10, []), (11, []), (12, []), (17, []), (18, []), (13, [17, 18]), (14, []), (15, []), (16, []), (19, []), (20, [])], [17, 18]) else none) else (bif Nat.blt i 24 then (bif Nat.beq i 21 then some ([(0, []), (1, []), (2, []), (4, []), (5, []), (6, []), (8, []), (9, []), (10, []), (12, []), (13, []), (14, []), (17, []), (3, [6, 10, 14, 17]), (7, [10, 14, 17]), (11, [14, 17]), (15, [17]), (16, []), (18, [])], [6, 10, 14, 17]) else none) else (bif Nat.beq i 24 then some ([(0, []), (1, []), (2, []), (3, []), (4, [1, 3]), (5, [3]), (6, []), (7, [])], [1, 3]) else none))))
def pl_79 (i : Nat) : Option (List (Nat × List Nat) × List Nat) := (bif Nat.beq i 18 then some ([(0, []), (1, []), (2, []), (3, []), (4, []), (5, []), (6, []), (7, []), (8, []), (9, []), (10, []), (11, [])], []) else none)
def pl_82 (i : Nat) : Option (List (Nat × List Nat) × List Nat) := (bif Nat.blt i 31 then (bif Nat.beq i 25 then some ([(0, []), (2, []), (3, []), (4, []), (5, []), (1, [2]), (6, []), (7, []), (8, []), (9, []), (10, [])], [2]) else none) else (bif Nat.beq i 31 then some ([(0, []), (2, []), (3, []), (4, []), (5, []), (1, [2]), (6, []), (7, []), (8, []), (9, []), (10, [])], [2]) else none))
def pl_83 (i : Nat) : Option (List (Nat × List Nat) × List Nat) := (bif Nat.blt i 42 then (bif Nat.blt i 34 then (bif Nat.beq i 30 then some ([(0, []), (1, []), (2, []), (4, []), (5, []), (6, []), (3, [4]), (7, []), (8, []), (9, [])], [4]) else none) else (bif Nat.blt i 38 then (bif Nat.beq i 34 then some ([(0, []), (1, []), (2, []), (3, []), (4, []), (5, []), (6, []), (7, []), (8, []), (9, []), (10, []), (11, []), (12, []), (13, []), (14, []), (15, [])], []) else none) else (bif Nat.beq i 38 then some ([(0, []), (1, []), (2, []), (4, []), (5, []), (6, []), (3, [4]), (7, []), (8, []), (9, [])], [4]) else none))) else (bif Nat.blt i 53 then (bif Nat.blt i 49 then (bif Nat.beq i 42 then some ([(0, []), (1, []), (2, []), (3, []), (4, []), (5, []), (6, []), (7, []), (8, []), (9, []), (10, []), (11, []), (12, []), (13, []), (14, []), (15, [])], []) else none) else (bif Nat.beq i 49 then some ([(0, []), (1, []), (2, []), (3, []), (5, []), (6, []), (7, []), (4, [5]), (8, []), (9, []), (10, [])], [5]) else none)) else (bif Nat.blt i 54 then (bif Nat.beq i 53 then some ([(0, []), (1, []), (2, []), (3, []), (4, []), (5, []), (6, []), (8, []), (9, []), (10, []), (11, []), (12, []), (7, [0, 10]), (13, [0]), (14, [0]), (15, [0]), (16, [])], [0, 10]) else none) else (bif Nat.beq i 54 then some ([(0, []), (1, []), (2, []), (3, []), (4, []), (5, []), (6, []), (7, []), (8, []), (9, []), (10, []), (11, []), (12, []), (13, [6]), (14, []), (15, []), (16, [])], [6]) else none))))
def pl_85 (i : Nat) : Option (List (Nat × List Nat) × List Nat) := (bif Nat.beq i 8 then some ([(0, []), (1, []), (2, []), (3, []), (4, []), (5, []), (6, [0]), (7, [])], [0]) else none)
def pl_87 (i : Nat) : Option (List (Nat × List Nat) × List Nat) := (bif Nat.beq i 3 then some ([(0, []), (1, []), (2, []), (3, []), (4, []), (5, []), (6, []), (9, []), (10, []), (11, []), (12, []), (13, []), (14, []), (15, []), (18, []), (7, [11, 13]), (8, [11, 13]), (16, []), (17, []), (19, []), (20, []), (21, [])], [11, 13]) else none)
def pl_88 (i : Nat) : Option (List (Nat × List Nat) × List Nat) := (bif Nat.blt i 9 then (bif Nat.beq i 8 then some ([(0, []), (1, []), (2, []), (3, []), (4, []), (5, []), (6, []), (7, []), (8, [])], []) else none) else (bif Nat.beq i 9 then some ([(0, []), (1, []), (2, []), (3, []), (4, []), (5, []), (6, []), (7, []), (8, [])], []) else none))
def pl_89 (i : Nat) : Option (List (Nat × List Nat) × List Nat) := (bif Nat.beq i 1 then some ([(0, []), (1, []), (2, [0]), (3, []), (4, [])], [0]) else none)
def pl_92 (i : Nat) : Option (List (Nat × List Nat) × List Nat) := (bif Nat.blt i 26 then (bif Nat.blt i 11 then (bif Nat.blt i 8 then (bif Nat.beq i 6 then some ([(0, []), (1, []), (2, [1]), (3, [])], [1]) else none) else (bif Nat.blt i 9 then (bif Nat.beq i 8 then some ([(0, []), (1, []), (2, []), (3, []), (4, []), (6, []), (7, []), (5, [2, 7]), (8, []), (9, [2, 7]), (10, [])], [2, 7]) else none) else (bif Nat.beq i 9 then some ([(0, []), (1, []), (2, []), (3, []), (4, []), (5, []), (7, []), (8, []), (6, [8]), (9, []), (10, []), (11, []), (12, [])], [8]) else none))) else (bif Nat.blt i 16 then (bif Nat.blt i 13 then (bif Nat.beq i 11 then some ([(0, []), (1, []), (2, [1]), (3, [])], [1]) else none) else (bif Nat.beq i 13 then some ([(0, []), (1, []), (3, []), (4, []), (2, [4]), (5, []), (6, []), (7, [])], [4]) else none)) else (bif Nat.blt i 24 then (bif Nat.beq i 16 then some ([(0, []), (1, []), (3, []), (4, []), (2, [4]), (5, []), (6, [])], [4]) else none) else (bif Nat.beq i 24 then some ([(0, []), (1, []), (2, []), (4, []), (5, []), (6, []), (7, []), (9, []), (10, []), (11, []), (12, []), (14, []), (18, []), (3, [5, 7, 10, 18]), (8, [10, 18]), (13, [10, 18]), (15, [10, 18]), (16, [18]), (17, []), (19, [])], [5, 7, 10, 18]) else none)))) else (bif Nat.blt i 45 then (bif Nat.blt i 41 then (bif Nat.beq i 26 then some ([(0, []), (1, []), (3, []), (4, []), (5, []), (8, []), (2, [4, 8]), (6, [8]), (7, []), (9, [8]), (10, [])], [4, 8]) else none) else (bif Nat.blt i 42 then (bif Nat.beq i 41 then some ([(0, []), (1, []), (3, []), (4, []), (2, [4]), (5, []), (6, [])], [4]) else none) else (bif Nat.beq i 42 then some ([(0, []), (1, []), (3, []), (4, []), (2, [4]), (5, []), (6, []), (7, [])], [4]) else none))) else (bif Nat.blt i 50 then (bif Nat.blt i 49 then (bif Nat.beq i 45 then some ([(0, []), (1, []), (3, []), (4, []), (2, [4]), (5, []), (6, [])], [4]) else none) else (bif Nat.beq i 49 then some ([(0, []), (1, []), (3, []), (4, []), (5, []), (6, []), (8, []), (9, []), (2, [4, 6]), (7, []), (10, []), (11, []), (12, [])], [4, 6]) else none)) else (bif Nat.blt i 51 then (bif Nat.beq i 50 then some ([(0, []), (1, []), (2, []), (4, []), (5, []), (6, []), (9, []), (10, []), (11, []), (13, []), (14, []), (15, []), (3, [5, 10, 14]), (7, [10, 14]), (8, [10, 14]), (12, [14]), (16, []), (17, []), (18, []), (19, [])], [5, 10, 14]) else none) else (bif Nat.beq i 51 then some ([(0, []), (1, []), (2, [1]), (3, [])], [1]) else none)))))
def pl_95 (i : Nat) : Option (List (Nat × List Nat) × List Nat) := (bif Nat.beq i 7 then some ([(0, []), (1, []), (2, []), (3, []), (4, []), (5, []), (6, []), (7, []), (8, []), (9, []), (10, []), (11, []), (12, []), (13, []), (14, []), (15, [])], []) else none)
def pl_96 (i : Nat) : Option (List (Nat × List Nat) × List Nat) := (bif Nat.blt i 8 then (bif Nat.beq i 6 then some ([(0, []), (1, []), (3, []), (2, [3]), (4, []), (5, [])], [3]) else none) else (bif Nat.beq i 8 then some ([(0, []), (1, []), (2, []), (4, []), (3, [4]), (5, []), (6, []), (7, [])], [4]) else none))
def pl_102 (i : Nat) : Option (List (Nat × List Nat) × List Nat) := (bif Nat.blt i 8 then (bif Nat.beq i 2 then some ([(0, []), (1, []), (2, []), (3, []), (4, []), (5, []), (6, []), (7, []), (8, []), (9, []), (10, []), (11, []), (12, []), (13, []), (14, []), (15, [])], []) else none) else (bif Nat.beq i 8 then some ([(0, []), (1, []), (2, []), (4, []), (3, [0, 4]), (5, []), (6, []), (7, []), (8, []), (9, []), (10, []), (11, [0]), (12, []), (13, []), (14, []), (15, []), (16, [])], [0, 4]) else none))
def pl_106 (i : Nat) : Option (List (Nat × List Nat) × List Nat) := (bif Nat.blt i 23 then (bif Nat.beq i 21 then some ([(0, []), (1, []), (2, []), (3, []), (4, []), (5, []), (6, []), (7, []), (8, []), (9, []), (10, []), (12, []), (13, []), (14, []), (15, []), (11, [6, 15]), (16, [6]), (17, []), (18, []), (19, [])], [6, 15]) else none) else (bif Nat.beq i 23 then some ([(0, []), (1, []), (2, []), (3, []), (4, []), (5, []), (6, []), (7, []), (8, []), (9, []), (10, [6]), (11, []), (12, []), (13, [])], [6]) else none))
def pl_109 (i : Nat) : Option (List (Nat × List Nat) × List Nat) := (bif Nat.beq i 7 then some ([(0, []), (1, []), (2, []), (3, []), (4, []), (5, []), (6, []), (7, []), (8, []), (9, []), (10, []), (11, []), (12, []), (13, []), (14, [])], []) else none)
def pl_114 (i : Nat) : Option (List (Nat × List Nat) × List Nat) := (bif Nat.beq i 5 then some ([(0, []), (1, []), (2, []), (3, []), (4, [])], []) else none)
def pl_117 (i : Nat) : Option (List (Nat × List Nat) × List Nat) := (bif Nat.beq i 6 then some ([(0, []), (1, []), (2, []), (3, []), (4, []), (5, []), (6, []), (7, [])], []) else none)
def pls (f i : Nat) : Option (List (Nat × List Nat) × List Nat) := bif Nat.beq f 3 then pl_3 i else bif Nat.beq f 4 then pl_4 i else bif Nat.beq f 5 then pl_5 i else bif Nat.beq f 6 then pl_6 i else bif Nat.beq f 7 then pl_7 i else bif Nat.beq f 9 then pl_9 i else bif Nat.beq f 12 then pl_12 i else bif Nat.beq f 15 then pl_15 i else bif Nat.beq f 20 then pl_20 i else bif Nat.beq f 25 then pl_25 i else bif Nat.beq f 27 then pl_27 i else bif Nat.beq f 34 then pl_34 i else bif Nat.beq f 36 then pl_36 i else bif Nat.beq f 37 then pl_37 i else bif Nat.beq f 41 then pl_41 i else bif Nat.beq f 42 then pl_42 i else bif Nat.beq f 44 then pl_44 i else bif Nat.beq f 45 then pl_45 i else bif Nat.beq f 46 then pl_46 i else bif Nat.beq f 48 then pl_48 i else bif Nat.beq f 49 then pl_49 i else bif Nat.beq f 50 then pl_50 i else bif Nat.beq f 51 then pl_51 i else bif Nat.beq f 52 then pl_52 i else bif Nat.beq f 59 then pl_59 i else bif Nat.beq f 60 then pl_60 i else bif Nat.beq f 62 then pl_62 i else bif Nat.beq f 68 then pl_68 i else bif Nat.beq f 70 then pl_70 i else bif Nat.beq f 75 then pl_75 i else bif Nat.beq f 76 then pl_76 i else bif Nat.beq f 79 then pl_79 i else bif Nat.beq f 82 then pl_82 i else bif Nat.beq f 83 then pl_83 i else bif Nat.beq f 85 then pl_85 i else bif Nat.beq f 87 then pl_87 i else bif Nat.beq f 88 then pl_88 i else bif Nat.beq f 89 then pl_89 i else bif Nat.beq f 92 then pl_92 i else bif Nat.beq f 95 then pl_95 i else bif Nat.beq f 96 then pl_96 i else bif Nat.beq f 102 then pl_102 i else bif Nat.beq f 106 then pl_106 i else bif Nat.beq f 109 then pl_109 i else bif Nat.beq f 114 then pl_114 i else bif Nat.beq f 117 then pl_117 i else none
theorem plok_3 : ((Tryz.prog.funcs[3]?).bind (fun fn => fn.body)).all (plOk pl_3) = true := by kernel_rfl
theorem plok_4 : ((Tryz.prog.funcs[4]?).bind (fun fn => fn.body)).all (plOk pl_4) = true := by kernel_rfl
theorem plok_5 : ((Tryz.prog.funcs[5]?).bind (fun fn => fn.body)).all (plOk pl_5) = true := by kernel_rfl
theorem plok_6 : ((Tryz.prog.funcs[6]?).bind (fun fn => fn.body)).all (plOk pl_6) = true := by kernel_rfl
theorem plok_7 : ((Tryz.prog.funcs[7]?).bind (fun fn => fn.body)).all (plOk pl_7) = true := by kernel_rfl
theorem plok_9 : ((Tryz.prog.funcs[9]?).bind (fun fn => fn.body)).all (plOk pl_9) = true := by kernel_rfl
theorem plok_12 : ((Tryz.prog.funcs[12]?).bind (fun fn => fn.body)).all (plOk pl_12) = true := by kernel_rfl
theorem plok_15 : ((Tryz.prog.funcs[15]?).bind (fun fn => fn.body)).all (plOk pl_15) = true := by kernel_rfl
theorem plok_20 : ((Tryz.prog.funcs[20]?).bind (fun fn => fn.body)).all (plOk pl_20) = true := by kernel_rfl
theorem plok_25 : ((Tryz.prog.funcs[25]?).bind (fun fn => fn.body)).all (plOk pl_25) = true := by kernel_rfl
theorem plok_27 : ((Tryz.prog.funcs[27]?).bind (fun fn => fn.body)).all (plOk pl_27) = true := by kernel_rfl
theorem plok_34 : ((Tryz.prog.funcs[34]?).bind (fun fn => fn.body)).all (plOk pl_34) = true := by kernel_rfl
theorem plok_36 : ((Tryz.prog.funcs[36]?).bind (fun fn => fn.body)).all (plOk pl_36) = true := by kernel_rfl
theorem plok_37 : ((Tryz.prog.funcs[37]?).bind (fun fn => fn.body)).all (plOk pl_37) = true := by kernel_rfl
theorem plok_41 : ((Tryz.prog.funcs[41]?).bind (fun fn => fn.body)).all (plOk pl_41) = true := by kernel_rfl
theorem plok_42 : ((Tryz.prog.funcs[42]?).bind (fun fn => fn.body)).all (plOk pl_42) = true := by kernel_rfl
theorem plok_44 : ((Tryz.prog.funcs[44]?).bind (fun fn => fn.body)).all (plOk pl_44) = true := by kernel_rfl
theorem plok_45 : ((Tryz.prog.funcs[45]?).bind (fun fn => fn.body)).all (plOk pl_45) = true := by kernel_rfl
theorem plok_46 : ((Tryz.prog.funcs[46]?).bind (fun fn => fn.body)).all (plOk pl_46) = true := by kernel_rfl
theorem plok_48 : ((Tryz.prog.funcs[48]?).bind (fun fn => fn.body)).all (plOk pl_48) = true := by kernel_rfl
theorem plok_49 : ((Tryz.prog.funcs[49]?).bind (fun fn => fn.body)).all (plOk pl_49) = true := by kernel_rfl
theorem plok_50 : ((Tryz.prog.funcs[50]?).bind (fun fn => fn.body)).all (plOk pl_50) = true := by kernel_rfl
theorem plok_51 : ((Tryz.prog.funcs[51]?).bind (fun fn => fn.body)).all (plOk pl_51) = true := by kernel_rfl
theorem plok_52 : ((Tryz.prog.funcs[52]?).bind (fun fn => fn.body)).all (plOk pl_52) = true := by kernel_rfl
theorem plok_59 : ((Tryz.prog.funcs[59]?).bind (fun fn => fn.body)).all (plOk pl_59) = true := by kernel_rfl
theorem plok_60 : ((Tryz.prog.funcs[60]?).bind (fun fn => fn.body)).all (plOk pl_60) = true := by kernel_rfl
theorem plok_62 : ((Tryz.prog.funcs[62]?).bind (fun fn => fn.body)).all (plOk pl_62) = true := by kernel_rfl
theorem plok_68 : ((Tryz.prog.funcs[68]?).bind (fun fn => fn.body)).all (plOk pl_68) = true := by kernel_rfl
theorem plok_70 : ((Tryz.prog.funcs[70]?).bind (fun fn => fn.body)).all (plOk pl_70) = true := by kernel_rfl
theorem plok_75 : ((Tryz.prog.funcs[75]?).bind (fun fn => fn.body)).all (plOk pl_75) = true := by kernel_rfl
theorem plok_76 : ((Tryz.prog.funcs[76]?).bind (fun fn => fn.body)).all (plOk pl_76) = true := by kernel_rfl
theorem plok_79 : ((Tryz.prog.funcs[79]?).bind (fun fn => fn.body)).all (plOk pl_79) = true := by kernel_rfl
theorem plok_82 : ((Tryz.prog.funcs[82]?).bind (fun fn => fn.body)).all (plOk pl_82) = true := by kernel_rfl
theorem plok_83 : ((Tryz.prog.funcs[83]?).bind (fun fn => fn.body)).all (plOk pl_83) = true := by kernel_rfl
theorem plok_85 : ((Tryz.prog.funcs[85]?).bind (fun fn => fn.body)).all (plOk pl_85) = true := by kernel_rfl
theorem plok_87 : ((Tryz.prog.funcs[87]?).bind (fun fn => fn.body)).all (plOk pl_87) = true := by kernel_rfl
theorem plok_88 : ((Tryz.prog.funcs[88]?).bind (fun fn => fn.body)).all (plOk pl_88) = true := by kernel_rfl
theorem plok_89 : ((Tryz.prog.funcs[89]?).bind (fun fn => fn.body)).all (plOk pl_89) = true := by kernel_rfl
theorem plok_92 : ((Tryz.prog.funcs[92]?).bind (fun fn => fn.body)).all (plOk pl_92) = true := by kernel_rfl
theorem plok_95 : ((Tryz.prog.funcs[95]?).bind (fun fn => fn.body)).all (plOk pl_95) = true := by kernel_rfl
theorem plok_96 : ((Tryz.prog.funcs[96]?).bind (fun fn => fn.body)).all (plOk pl_96) = true := by kernel_rfl
theorem plok_102 : ((Tryz.prog.funcs[102]?).bind (fun fn => fn.body)).all (plOk pl_102) = true := by kernel_rfl
theorem plok_106 : ((Tryz.prog.funcs[106]?).bind (fun fn => fn.body)).all (plOk pl_106) = true := by kernel_rfl
theorem plok_109 : ((Tryz.prog.funcs[109]?).bind (fun fn => fn.body)).all (plOk pl_109) = true := by kernel_rfl
theorem plok_114 : ((Tryz.prog.funcs[114]?).bind (fun fn => fn.body)).all (plOk pl_114) = true := by kernel_rfl
theorem plok_117 : ((Tryz.prog.funcs[117]?).bind (fun fn => fn.body)).all (plOk pl_117) = true := by kernel_rfl

/-- The numbers that cells hold. -/
def decL : List MV → Option (List Int)
  | [] => some []
  | .lit (.int .u64 n) :: l => match decL l with
    | some D => some (n :: D)
    | none => none
  | _ => none
theorem decL_eq : ∀ {l : List MV} {D : List Int}, decL l = some D → l = D.map u64 := by
  intro l
  induction l with
  | nil => intro D h; cases h; rfl
  | cons x l ih =>
    intro D h
    unfold decL at h
    split at h
    · rename_i heq; cases heq
    · rename_i n l' heq
      cases heq
      split at h
      · rename_i D' hD; cases h; rw [ih hD]; rfl
      · cases h
    · cases h
def k_118 (args : List MV) (H : MH) : Option (MV × Option MH) := match args with
  | [.lit (.int .u64 a), .lit (.int .u64 b), .lit (.int .u64 c)] => bif decide (0 ≤ a) && decide (0 ≤ b) && decide (0 ≤ c) && decide (c ≤ 1) then fVk (.tup [u64 (add64M a b c).1, u64 (add64M a b c).2]) (fun v => some (v, none)) else none
  | _ => none
theorem k_118_spec {args : List MV} {H : MH} {r : MV × Option MH} (h : k_118 args H = some r) : Spec Tryz.prog 118 args H fun v' H' => v' = r.1 ∧ H' = r.2.getD H := by
  unfold k_118 at h
  split at h
  · rename_i a b c
    simp only [fVk_eq] at h
    rw [Bool.cond_eq_ite] at h
    split at h
    · rename_i hc
      try simp only [Bool.and_eq_true, decide_eq_true_eq] at hc
      cases h
      exact add64_spec hc.1.1.1 hc.1.1.2 ⟨hc.1.2, hc.2⟩ H
    · cases h
  · cases h
def k_119 (args : List MV) (H : MH) : Option (MV × Option MH) := match args with
  | [.lit (.int .u64 a), .lit (.int .u64 b), .lit (.int .u64 c)] => bif decide (0 ≤ a) && decide (0 ≤ b) && decide (b < 18446744073709551616) && decide (0 ≤ c) && decide (c ≤ 1) then fVk (.tup [u64 (sub64M a b c).1, u64 (sub64M a b c).2]) (fun v => some (v, none)) else none
  | _ => none
theorem k_119_spec {args : List MV} {H : MH} {r : MV × Option MH} (h : k_119 args H = some r) : Spec Tryz.prog 119 args H fun v' H' => v' = r.1 ∧ H' = r.2.getD H := by
  unfold k_119 at h
  split at h
  · rename_i a b c
    simp only [fVk_eq] at h
    rw [Bool.cond_eq_ite] at h
    split at h
    · rename_i hc
      try simp only [Bool.and_eq_true, decide_eq_true_eq] at hc
      cases h
      exact sub64_spec hc.1.1.1.1 ⟨hc.1.1.1.2, hc.1.1.2⟩ ⟨hc.1.2, hc.2⟩ H
    · cases h
  · cases h
def k_84 (args : List MV) (H : MH) : Option (MV × Option MH) := match args with
  | [.lit (.int .u64 a), .lit (.int .u64 b)] => bif true then fVk (.tup [u64 (mulM a b).1, u8 (mulM a b).2]) (fun v => some (v, none)) else none
  | _ => none
theorem k_84_spec {args : List MV} {H : MH} {r : MV × Option MH} (h : k_84 args H = some r) : Spec Tryz.prog 84 args H fun v' H' => v' = r.1 ∧ H' = r.2.getD H := by
  unfold k_84 at h
  split at h
  · rename_i a b
    simp only [fVk_eq] at h
    rw [Bool.cond_eq_ite] at h
    split at h
    · rename_i hc
      try simp only [Bool.and_eq_true, decide_eq_true_eq] at hc
      cases h
      exact mul_spec a b H
    · cases h
  · cases h
def k_82 (args : List MV) (H : MH) : Option (MV × Option MH) := match args with
  | [.lit (.int .u64 a), .lit (.int .u64 b)] => bif decide (0 ≤ a) && decide (a < 18446744073709551616) && decide (0 ≤ b) && decide (b < 18446744073709551616) then fVk (.tup [u64 (addM a b).1, u8 (addM a b).2]) (fun v => some (v, none)) else none
  | _ => none
theorem k_82_spec {args : List MV} {H : MH} {r : MV × Option MH} (h : k_82 args H = some r) : Spec Tryz.prog 82 args H fun v' H' => v' = r.1 ∧ H' = r.2.getD H := by
  unfold k_82 at h
  split at h
  · rename_i a b
    simp only [fVk_eq] at h
    rw [Bool.cond_eq_ite] at h
    split at h
    · rename_i hc
      try simp only [Bool.and_eq_true, decide_eq_true_eq] at hc
      cases h
      exact add_spec ⟨hc.1.1.1, hc.1.1.2⟩ ⟨hc.1.2, hc.2⟩ H
    · cases h
  · cases h
def k_17 (args : List MV) (H : MH) : Option (MV × Option MH) := match args with
  | [.lit (.int .u64 a)] => bif true then fVk (i64 (kindM a)) (fun v => some (v, none)) else none
  | _ => none
theorem k_17_spec {args : List MV} {H : MH} {r : MV × Option MH} (h : k_17 args H = some r) : Spec Tryz.prog 17 args H fun v' H' => v' = r.1 ∧ H' = r.2.getD H := by
  unfold k_17 at h
  split at h
  · rename_i a
    simp only [fVk_eq] at h
    rw [Bool.cond_eq_ite] at h
    split at h
    · rename_i hc
      try simp only [Bool.and_eq_true, decide_eq_true_eq] at hc
      cases h
      exact kind_spec a H
    · cases h
  · cases h
def k_16 (args : List MV) (H : MH) : Option (MV × Option MH) := match args with
  | [.lit (.int .u64 a)] => bif true then fVk (u64 (absM a)) (fun v => some (v, none)) else none
  | _ => none
theorem k_16_spec {args : List MV} {H : MH} {r : MV × Option MH} (h : k_16 args H = some r) : Spec Tryz.prog 16 args H fun v' H' => v' = r.1 ∧ H' = r.2.getD H := by
  unfold k_16 at h
  split at h
  · rename_i a
    simp only [fVk_eq] at h
    rw [Bool.cond_eq_ite] at h
    split at h
    · rename_i hc
      try simp only [Bool.and_eq_true, decide_eq_true_eq] at hc
      cases h
      exact abs_spec a H
    · cases h
  · cases h
def k_31 (args : List MV) (H : MH) : Option (MV × Option MH) := match args with
  | [.lit (.int .u64 a)] => bif true then fVk (bl (negM a)) (fun v => some (v, none)) else none
  | _ => none
theorem k_31_spec {args : List MV} {H : MH} {r : MV × Option MH} (h : k_31 args H = some r) : Spec Tryz.prog 31 args H fun v' H' => v' = r.1 ∧ H' = r.2.getD H := by
  unfold k_31 at h
  split at h
  · rename_i a
    simp only [fVk_eq] at h
    rw [Bool.cond_eq_ite] at h
    split at h
    · rename_i hc
      try simp only [Bool.and_eq_true, decide_eq_true_eq] at hc
      cases h
      exact neg_spec a H
    · cases h
  · cases h
def k_18 (args : List MV) (H : MH) : Option (MV × Option MH) := match args with
  | [.lit (.int .u64 a)] => bif true then fVk (u64 (flipM a)) (fun v => some (v, none)) else none
  | _ => none
theorem k_18_spec {args : List MV} {H : MH} {r : MV × Option MH} (h : k_18 args H = some r) : Spec Tryz.prog 18 args H fun v' H' => v' = r.1 ∧ H' = r.2.getD H := by
  unfold k_18 at h
  split at h
  · rename_i a
    simp only [fVk_eq] at h
    rw [Bool.cond_eq_ite] at h
    split at h
    · rename_i hc
      try simp only [Bool.and_eq_true, decide_eq_true_eq] at hc
      cases h
      exact flip_spec a H
    · cases h
  · cases h
def k_32 (args : List MV) (H : MH) : Option (MV × Option MH) := match args with
  | [.lit (.int .u64 a)] => bif true then fVk (bl (finiteM a)) (fun v => some (v, none)) else none
  | _ => none
theorem k_32_spec {args : List MV} {H : MH} {r : MV × Option MH} (h : k_32 args H = some r) : Spec Tryz.prog 32 args H fun v' H' => v' = r.1 ∧ H' = r.2.getD H := by
  unfold k_32 at h
  split at h
  · rename_i a
    simp only [fVk_eq] at h
    rw [Bool.cond_eq_ite] at h
    split at h
    · rename_i hc
      try simp only [Bool.and_eq_true, decide_eq_true_eq] at hc
      cases h
      exact finite_spec a H
    · cases h
  · cases h
def k_80 (args : List MV) (H : MH) : Option (MV × Option MH) := match args with
  | [.lit (.int .u64 a)] => bif true then fVk (bl (signalsM a)) (fun v => some (v, none)) else none
  | _ => none
theorem k_80_spec {args : List MV} {H : MH} {r : MV × Option MH} (h : k_80 args H = some r) : Spec Tryz.prog 80 args H fun v' H' => v' = r.1 ∧ H' = r.2.getD H := by
  unfold k_80 at h
  split at h
  · rename_i a
    simp only [fVk_eq] at h
    rw [Bool.cond_eq_ite] at h
    split at h
    · rename_i hc
      try simp only [Bool.and_eq_true, decide_eq_true_eq] at hc
      cases h
      exact signals_spec a H
    · cases h
  · cases h
def k_39 (args : List MV) (H : MH) : Option (MV × Option MH) := match args with
  | [.lit (.int .u64 a)] => bif true then fVk (.tup [u64 (partsM a).1, i64 (partsM a).2]) (fun v => some (v, none)) else none
  | _ => none
theorem k_39_spec {args : List MV} {H : MH} {r : MV × Option MH} (h : k_39 args H = some r) : Spec Tryz.prog 39 args H fun v' H' => v' = r.1 ∧ H' = r.2.getD H := by
  unfold k_39 at h
  split at h
  · rename_i a
    simp only [fVk_eq] at h
    rw [Bool.cond_eq_ite] at h
    split at h
    · rename_i hc
      try simp only [Bool.and_eq_true, decide_eq_true_eq] at hc
      cases h
      exact parts_spec a H
    · cases h
  · cases h
def k_19 (args : List MV) (H : MH) : Option (MV × Option MH) := match args with
  | [.lit (.int .u64 a), .lit (.int .u64 b)] => bif true then fVk (u64 (signM a b)) (fun v => some (v, none)) else none
  | _ => none
theorem k_19_spec {args : List MV} {H : MH} {r : MV × Option MH} (h : k_19 args H = some r) : Spec Tryz.prog 19 args H fun v' H' => v' = r.1 ∧ H' = r.2.getD H := by
  unfold k_19 at h
  split at h
  · rename_i a b
    simp only [fVk_eq] at h
    rw [Bool.cond_eq_ite] at h
    split at h
    · rename_i hc
      try simp only [Bool.and_eq_true, decide_eq_true_eq] at hc
      cases h
      exact sign_spec a b H
    · cases h
  · cases h
def k_107 (args : List MV) (H : MH) : Option (MV × Option MH) := match args with
  | [.lit (.int .u64 a), .lit (.int .u64 b)] => bif true then fVk (wd (mul64M a b)) (fun v => some (v, none)) else none
  | _ => none
theorem k_107_spec {args : List MV} {H : MH} {r : MV × Option MH} (h : k_107 args H = some r) : Spec Tryz.prog 107 args H fun v' H' => v' = r.1 ∧ H' = r.2.getD H := by
  unfold k_107 at h
  split at h
  · rename_i a b
    simp only [fVk_eq] at h
    rw [Bool.cond_eq_ite] at h
    split at h
    · rename_i hc
      try simp only [Bool.and_eq_true, decide_eq_true_eq] at hc
      cases h
      exact wmul_spec a b H
    · cases h
  · cases h
def k_116 (args : List MV) (H : MH) : Option (MV × Option MH) := match args with
  | [.agg [.lit (.int .u64 a1), .lit (.int .u64 a2)], .agg [.lit (.int .u64 b1), .lit (.int .u64 b2)]] => bif true then fVk (i64 (wcmpM (a1, a2) (b1, b2))) (fun v => some (v, none)) else none
  | _ => none
theorem k_116_spec {args : List MV} {H : MH} {r : MV × Option MH} (h : k_116 args H = some r) : Spec Tryz.prog 116 args H fun v' H' => v' = r.1 ∧ H' = r.2.getD H := by
  unfold k_116 at h
  split at h
  · rename_i a1 a2 b1 b2
    simp only [fVk_eq] at h
    rw [Bool.cond_eq_ite] at h
    split at h
    · rename_i hc
      try simp only [Bool.and_eq_true, decide_eq_true_eq] at hc
      cases h
      exact wcmp_spec (a1, a2) (b1, b2) H
    · cases h
  · cases h
def k_95 (args : List MV) (H : MH) : Option (MV × Option MH) := match args with
  | [.agg [.lit (.int .u64 a1), .lit (.int .u64 a2)], .lit (.int .i64 b)] => bif true then fVk (wd (wleftM (a1, a2) b)) (fun v => some (v, none)) else none
  | _ => none
theorem k_95_spec {args : List MV} {H : MH} {r : MV × Option MH} (h : k_95 args H = some r) : Spec Tryz.prog 95 args H fun v' H' => v' = r.1 ∧ H' = r.2.getD H := by
  unfold k_95 at h
  split at h
  · rename_i a1 a2 b
    simp only [fVk_eq] at h
    rw [Bool.cond_eq_ite] at h
    split at h
    · rename_i hc
      try simp only [Bool.and_eq_true, decide_eq_true_eq] at hc
      cases h
      exact wleft_spec (a1, a2) b H
    · cases h
  · cases h
def k_81 (args : List MV) (H : MH) : Option (MV × Option MH) := match args with
  | [.lit (.bool a), .agg [.lit (.int .u64 b1), .lit (.int .u64 b2)], .lit (.int .i64 c), .lit (.bool d)] => bif decide (0 ≤ b1) && decide (b1 < 18446744073709551616) && decide (0 ≤ b2) && decide (b2 < 18446744073709551616) then fVk (.tup [u64 (roundM a (b1, b2) c d).1, u8 (roundM a (b1, b2) c d).2]) (fun v => some (v, none)) else none
  | _ => none
theorem k_81_spec {args : List MV} {H : MH} {r : MV × Option MH} (h : k_81 args H = some r) : Spec Tryz.prog 81 args H fun v' H' => v' = r.1 ∧ H' = r.2.getD H := by
  unfold k_81 at h
  split at h
  · rename_i a b1 b2 c d
    simp only [fVk_eq] at h
    rw [Bool.cond_eq_ite] at h
    split at h
    · rename_i hc
      try simp only [Bool.and_eq_true, decide_eq_true_eq] at hc
      cases h
      exact round_spec a ⟨⟨hc.1.1.1, hc.1.1.2⟩, ⟨hc.1.2, hc.2⟩⟩ c d H
    · cases h
  · cases h
def k_94 (args : List MV) (H : MH) : Option (MV × Option MH) := match args with
  | [.lit (.int .u64 a)] => bif decide (0 ≤ a) && decide (a < 18446744073709551616) then fVk (i64 (lenM a)) (fun v => some (v, none)) else none
  | _ => none
theorem k_94_spec {args : List MV} {H : MH} {r : MV × Option MH} (h : k_94 args H = some r) : Spec Tryz.prog 94 args H fun v' H' => v' = r.1 ∧ H' = r.2.getD H := by
  unfold k_94 at h
  split at h
  · rename_i a
    simp only [fVk_eq] at h
    rw [Bool.cond_eq_ite] at h
    split at h
    · rename_i hc
      try simp only [Bool.and_eq_true, decide_eq_true_eq] at hc
      cases h
      exact len_spec hc H
    · cases h
  · cases h
def k_11 (args : List MV) (H : MH) : Option (MV × Option MH) := match args with
  | [.agg [.lit (.int .i64 r), .lit (.int .i64 c), .lit (.int .i64 s), .slice p 0 n z 1], .lit (.int .i64 i), .lit (.int .i64 k)] => match hget H p with
    | some ob => match decL ob.cells with
      | some D => bif decide (s = c) && decide (0 ≤ r) && decide (r ≤ 4096) && decide (0 ≤ c) && decide (c ≤ 4096) && decide (D.length = (r * c).toNat) && decide (D.length = n) then fI (atM r c c D i k) (fun x => some (u64 x, none)) else none
      | none => none
    | none => none
  | _ => none
theorem k_11_spec {args : List MV} {H : MH} {u : MV × Option MH} (h : k_11 args H = some u) : Spec Tryz.prog 11 args H fun v' H' => v' = u.1 ∧ H' = u.2.getD H := by
  unfold k_11 at h
  split at h
  · rename_i r c s p n z i k
    split at h
    · rename_i ob hob
      split at h
      · rename_i D hD
        simp only [fD_eq, fI_eq] at h
        rw [Bool.cond_eq_ite] at h
        split at h
        · rename_i hc
          simp only [Bool.and_eq_true, decide_eq_true_eq] at hc
          have hs := hc.1.1.1.1.1.1
          subst hs
          obtain ⟨cells, rw⟩ := ob
          have hcell := decL_eq hD
          simp only at hcell
          subst hcell
          have hp := hob
          cases h
          exact at_ok ⟨hc.1.1.1.1.1.2, hc.1.1.1.1.2, hc.1.1.1.2, hc.1.1.2, hc.1.2⟩ i k hp hc.2
        · cases h
      · cases h
    · cases h
  · cases h
def k_14 (args : List MV) (H : MH) : Option (MV × Option MH) := match args with
  | [.agg [.lit (.int .i64 r), .lit (.int .i64 c), .lit (.int .i64 s), .slice p 0 n z 1], .lit (.int .i64 i), .lit (.int .i64 k), .lit (.int .u64 b)] => match hget H p with
    | some ob => match decL ob.cells with
      | some D => bif decide (s = c) && decide (0 ≤ r) && decide (r ≤ 4096) && decide (0 ≤ c) && decide (c ≤ 4096) && decide (D.length = (r * c).toNat) && decide (D.length = n) then bif ob.rw then fD (setM r c c D i k b) (fun D => some (.tup [], some (H.set p (some ⟨D.map u64, true⟩)))) else none else none
      | none => none
    | none => none
  | _ => none
theorem k_14_spec {args : List MV} {H : MH} {u : MV × Option MH} (h : k_14 args H = some u) : Spec Tryz.prog 14 args H fun v' H' => v' = u.1 ∧ H' = u.2.getD H := by
  unfold k_14 at h
  split at h
  · rename_i r c s p n z i k b
    split at h
    · rename_i ob hob
      split at h
      · rename_i D hD
        simp only [fD_eq, fI_eq] at h
        rw [Bool.cond_eq_ite] at h
        split at h
        · rename_i hc
          simp only [Bool.and_eq_true, decide_eq_true_eq] at hc
          have hs := hc.1.1.1.1.1.1
          subst hs
          obtain ⟨cells, rw⟩ := ob
          have hcell := decL_eq hD
          simp only at hcell
          subst hcell
          cases rw with
          | false => cases h
          | true =>
            have hp := hob
            cases h
            exact set_ok ⟨hc.1.1.1.1.1.2, hc.1.1.1.1.2, hc.1.1.1.2, hc.1.1.2, hc.1.2⟩ i k b hp hc.2
        · cases h
      · cases h
    · cases h
  · cases h
def kn (f : FuncId) (args : List MV) (H : MH) : Option (MV × Option MH) := bif Nat.beq f 118 then k_118 args H else bif Nat.beq f 119 then k_119 args H else bif Nat.beq f 84 then k_84 args H else bif Nat.beq f 82 then k_82 args H else bif Nat.beq f 17 then k_17 args H else bif Nat.beq f 16 then k_16 args H else bif Nat.beq f 31 then k_31 args H else bif Nat.beq f 18 then k_18 args H else bif Nat.beq f 32 then k_32 args H else bif Nat.beq f 80 then k_80 args H else bif Nat.beq f 39 then k_39 args H else bif Nat.beq f 19 then k_19 args H else bif Nat.beq f 107 then k_107 args H else bif Nat.beq f 116 then k_116 args H else bif Nat.beq f 95 then k_95 args H else bif Nat.beq f 81 then k_81 args H else bif Nat.beq f 94 then k_94 args H else bif Nat.beq f 11 then k_11 args H else bif Nat.beq f 14 then k_14 args H else none
theorem kn_spec : ∀ f args H r, kn f args H = some r → Spec Tryz.prog f args H fun v' H' => v' = r.1 ∧ H' = r.2.getD H := by
  intro f args H r h
  unfold kn at h
  rw [beq_dec', Bool.cond_decide] at h
  split at h
  · rename_i hf
    subst hf
    exact k_118_spec h
  rw [beq_dec', Bool.cond_decide] at h
  split at h
  · rename_i hf
    subst hf
    exact k_119_spec h
  rw [beq_dec', Bool.cond_decide] at h
  split at h
  · rename_i hf
    subst hf
    exact k_84_spec h
  rw [beq_dec', Bool.cond_decide] at h
  split at h
  · rename_i hf
    subst hf
    exact k_82_spec h
  rw [beq_dec', Bool.cond_decide] at h
  split at h
  · rename_i hf
    subst hf
    exact k_17_spec h
  rw [beq_dec', Bool.cond_decide] at h
  split at h
  · rename_i hf
    subst hf
    exact k_16_spec h
  rw [beq_dec', Bool.cond_decide] at h
  split at h
  · rename_i hf
    subst hf
    exact k_31_spec h
  rw [beq_dec', Bool.cond_decide] at h
  split at h
  · rename_i hf
    subst hf
    exact k_18_spec h
  rw [beq_dec', Bool.cond_decide] at h
  split at h
  · rename_i hf
    subst hf
    exact k_32_spec h
  rw [beq_dec', Bool.cond_decide] at h
  split at h
  · rename_i hf
    subst hf
    exact k_80_spec h
  rw [beq_dec', Bool.cond_decide] at h
  split at h
  · rename_i hf
    subst hf
    exact k_39_spec h
  rw [beq_dec', Bool.cond_decide] at h
  split at h
  · rename_i hf
    subst hf
    exact k_19_spec h
  rw [beq_dec', Bool.cond_decide] at h
  split at h
  · rename_i hf
    subst hf
    exact k_107_spec h
  rw [beq_dec', Bool.cond_decide] at h
  split at h
  · rename_i hf
    subst hf
    exact k_116_spec h
  rw [beq_dec', Bool.cond_decide] at h
  split at h
  · rename_i hf
    subst hf
    exact k_95_spec h
  rw [beq_dec', Bool.cond_decide] at h
  split at h
  · rename_i hf
    subst hf
    exact k_81_spec h
  rw [beq_dec', Bool.cond_decide] at h
  split at h
  · rename_i hf
    subst hf
    exact k_94_spec h
  rw [beq_dec', Bool.cond_decide] at h
  split at h
  · rename_i hf
    subst hf
    exact k_11_spec h
  rw [beq_dec', Bool.cond_decide] at h
  split at h
  · rename_i hf
    subst hf
    exact k_14_spec h
  cases h
def roF (f : FuncId) : Bool := (match ((bif Nat.blt f 59 then (bif Nat.blt f 44 then (bif Nat.blt f 23 then (bif Nat.blt f 12 then (bif Nat.blt f 9 then (bif Nat.beq f 7 then some () else none) else (bif Nat.blt f 10 then (bif Nat.beq f 9 then some () else none) else (bif Nat.beq f 10 then some () else none))) else (bif Nat.blt f 13 then (bif Nat.beq f 12 then some () else none) else (bif Nat.blt f 14 then (bif Nat.beq f 13 then some () else none) else (bif Nat.beq f 14 then some () else none)))) else (bif Nat.blt f 34 then (bif Nat.blt f 25 then (bif Nat.beq f 23 then some () else none) else (bif Nat.blt f 27 then (bif Nat.beq f 25 then some () else none) else (bif Nat.beq f 27 then some () else none))) else (bif Nat.blt f 37 then (bif Nat.blt f 36 then (bif Nat.beq f 34 then some () else none) else (bif Nat.beq f 36 then some () else none)) else (bif Nat.blt f 43 then (bif Nat.beq f 37 then some () else none) else (bif Nat.beq f 43 then some () else none))))) else (bif Nat.blt f 49 then (bif Nat.blt f 46 then (bif Nat.blt f 45 then (bif Nat.beq f 44 then some () else none) else (bif Nat.blt f 45 then (bif Nat.beq f 45 then some () else none) else (bif Nat.beq f 45 then some () else none))) else (bif Nat.blt f 47 then (bif Nat.beq f 46 then some () else none) else (bif Nat.blt f 48 then (bif Nat.beq f 47 then some () else none) else (bif Nat.beq f 48 then some () else none)))) else (bif Nat.blt f 53 then (bif Nat.blt f 50 then (bif Nat.beq f 49 then some () else none) else (bif Nat.blt f 52 then (bif Nat.beq f 50 then some () else none) else (bif Nat.beq f 52 then some () else none))) else (bif Nat.blt f 55 then (bif Nat.blt f 54 then (bif Nat.beq f 53 then some () else none) else (bif Nat.beq f 54 then some () else none)) else (bif Nat.blt f 57 then (bif Nat.beq f 55 then some () else none) else (bif Nat.beq f 57 then some () else none)))))) else (bif Nat.blt f 78 then (bif Nat.blt f 68 then (bif Nat.blt f 64 then (bif Nat.blt f 61 then (bif Nat.beq f 59 then some () else none) else (bif Nat.blt f 62 then (bif Nat.beq f 61 then some () else none) else (bif Nat.beq f 62 then some () else none))) else (bif Nat.blt f 66 then (bif Nat.beq f 64 then some () else none) else (bif Nat.blt f 67 then (bif Nat.beq f 66 then some () else none) else (bif Nat.beq f 67 then some () else none)))) else (bif Nat.blt f 71 then (bif Nat.blt f 69 then (bif Nat.beq f 68 then some () else none) else (bif Nat.blt f 70 then (bif Nat.beq f 69 then some () else none) else (bif Nat.beq f 70 then some () else none))) else (bif Nat.blt f 73 then (bif Nat.blt f 72 then (bif Nat.beq f 71 then some () else none) else (bif Nat.beq f 72 then some () else none)) else (bif Nat.blt f 75 then (bif Nat.beq f 73 then some () else none) else (bif Nat.beq f 75 then some () else none))))) else (bif Nat.blt f 93 then (bif Nat.blt f 87 then (bif Nat.blt f 85 then (bif Nat.beq f 78 then some () else none) else (bif Nat.blt f 86 then (bif Nat.beq f 85 then some () else none) else (bif Nat.beq f 86 then some () else none))) else (bif Nat.blt f 89 then (bif Nat.beq f 87 then some () else none) else (bif Nat.blt f 91 then (bif Nat.beq f 89 then some () else none) else (bif Nat.beq f 91 then some () else none)))) else (bif Nat.blt f 111 then (bif Nat.blt f 109 then (bif Nat.beq f 93 then some () else none) else (bif Nat.blt f 110 then (bif Nat.beq f 109 then some () else none) else (bif Nat.beq f 110 then some () else none))) else (bif Nat.blt f 115 then (bif Nat.blt f 112 then (bif Nat.beq f 111 then some () else none) else (bif Nat.beq f 112 then some () else none)) else (bif Nat.blt f 142 then (bif Nat.beq f 115 then some () else none) else (bif Nat.beq f 142 then some () else none))))))) : Option Unit) with | some _ => false | none => true)
def iso (f : FuncId) : Bool := !(Nat.beq f 69) && !(Nat.beq f 72) && !(Nat.beq f 73) && !(Nat.beq f 86) && !(Nat.beq f 111) && !(Nat.beq f 13) && !(Nat.beq f 10) && !(Nat.beq f 64) && !(Nat.beq f 27) && !(Nat.beq f 91)
theorem fok : FOk Tryz.prog pls := by
  have h : Tryz.prog.funcs.all (fun fn => !(fn.name == "runtime.NumGoroutine") && (match fn.body with | some c => codeOk fn.ntmps c | none => true)) = true := by decide +kernel
  intro f fn c hf hb
  have := Array.all_eq_true_iff_forall_mem.1 h fn (Array.mem_of_getElem? hf)
  simp only [Bool.and_eq_true, hb] at this
  refine ⟨by simpa using this.1, this.2, ?_⟩
  by_cases h3 : f = 3
  · subst h3
    have h := plok_3
    rw [hf, Option.bind_some, hb, Option.all_some] at h
    have e : pls 3 = pl_3 := by funext i; rfl
    rw [e]; exact h
  by_cases h4 : f = 4
  · subst h4
    have h := plok_4
    rw [hf, Option.bind_some, hb, Option.all_some] at h
    have e : pls 4 = pl_4 := by funext i; rfl
    rw [e]; exact h
  by_cases h5 : f = 5
  · subst h5
    have h := plok_5
    rw [hf, Option.bind_some, hb, Option.all_some] at h
    have e : pls 5 = pl_5 := by funext i; rfl
    rw [e]; exact h
  by_cases h6 : f = 6
  · subst h6
    have h := plok_6
    rw [hf, Option.bind_some, hb, Option.all_some] at h
    have e : pls 6 = pl_6 := by funext i; rfl
    rw [e]; exact h
  by_cases h7 : f = 7
  · subst h7
    have h := plok_7
    rw [hf, Option.bind_some, hb, Option.all_some] at h
    have e : pls 7 = pl_7 := by funext i; rfl
    rw [e]; exact h
  by_cases h9 : f = 9
  · subst h9
    have h := plok_9
    rw [hf, Option.bind_some, hb, Option.all_some] at h
    have e : pls 9 = pl_9 := by funext i; rfl
    rw [e]; exact h
  by_cases h12 : f = 12
  · subst h12
    have h := plok_12
    rw [hf, Option.bind_some, hb, Option.all_some] at h
    have e : pls 12 = pl_12 := by funext i; rfl
    rw [e]; exact h
  by_cases h15 : f = 15
  · subst h15
    have h := plok_15
    rw [hf, Option.bind_some, hb, Option.all_some] at h
    have e : pls 15 = pl_15 := by funext i; rfl
    rw [e]; exact h
  by_cases h20 : f = 20
  · subst h20
    have h := plok_20
    rw [hf, Option.bind_some, hb, Option.all_some] at h
    have e : pls 20 = pl_20 := by funext i; rfl
    rw [e]; exact h
  by_cases h25 : f = 25
  · subst h25
    have h := plok_25
    rw [hf, Option.bind_some, hb, Option.all_some] at h
    have e : pls 25 = pl_25 := by funext i; rfl
    rw [e]; exact h
  by_cases h27 : f = 27
  · subst h27
    have h := plok_27
    rw [hf, Option.bind_some, hb, Option.all_some] at h
    have e : pls 27 = pl_27 := by funext i; rfl
    rw [e]; exact h
  by_cases h34 : f = 34
  · subst h34
    have h := plok_34
    rw [hf, Option.bind_some, hb, Option.all_some] at h
    have e : pls 34 = pl_34 := by funext i; rfl
    rw [e]; exact h
  by_cases h36 : f = 36
  · subst h36
    have h := plok_36
    rw [hf, Option.bind_some, hb, Option.all_some] at h
    have e : pls 36 = pl_36 := by funext i; rfl
    rw [e]; exact h
  by_cases h37 : f = 37
  · subst h37
    have h := plok_37
    rw [hf, Option.bind_some, hb, Option.all_some] at h
    have e : pls 37 = pl_37 := by funext i; rfl
    rw [e]; exact h
  by_cases h41 : f = 41
  · subst h41
    have h := plok_41
    rw [hf, Option.bind_some, hb, Option.all_some] at h
    have e : pls 41 = pl_41 := by funext i; rfl
    rw [e]; exact h
  by_cases h42 : f = 42
  · subst h42
    have h := plok_42
    rw [hf, Option.bind_some, hb, Option.all_some] at h
    have e : pls 42 = pl_42 := by funext i; rfl
    rw [e]; exact h
  by_cases h44 : f = 44
  · subst h44
    have h := plok_44
    rw [hf, Option.bind_some, hb, Option.all_some] at h
    have e : pls 44 = pl_44 := by funext i; rfl
    rw [e]; exact h
  by_cases h45 : f = 45
  · subst h45
    have h := plok_45
    rw [hf, Option.bind_some, hb, Option.all_some] at h
    have e : pls 45 = pl_45 := by funext i; rfl
    rw [e]; exact h
  by_cases h46 : f = 46
  · subst h46
    have h := plok_46
    rw [hf, Option.bind_some, hb, Option.all_some] at h
    have e : pls 46 = pl_46 := by funext i; rfl
    rw [e]; exact h
  by_cases h48 : f = 48
  · subst h48
    have h := plok_48
    rw [hf, Option.bind_some, hb, Option.all_some] at h
    have e : pls 48 = pl_48 := by funext i; rfl
    rw [e]; exact h
  by_cases h49 : f = 49
  · subst h49
    have h := plok_49
    rw [hf, Option.bind_some, hb, Option.all_some] at h
    have e : pls 49 = pl_49 := by funext i; rfl
    rw [e]; exact h
  by_cases h50 : f = 50
  · subst h50
    have h := plok_50
    rw [hf, Option.bind_some, hb, Option.all_some] at h
    have e : pls 50 = pl_50 := by funext i; rfl
    rw [e]; exact h
  by_cases h51 : f = 51
  · subst h51
    have h := plok_51
    rw [hf, Option.bind_some, hb, Option.all_some] at h
    have e : pls 51 = pl_51 := by funext i; rfl
    rw [e]; exact h
  by_cases h52 : f = 52
  · subst h52
    have h := plok_52
    rw [hf, Option.bind_some, hb, Option.all_some] at h
    have e : pls 52 = pl_52 := by funext i; rfl
    rw [e]; exact h
  by_cases h59 : f = 59
  · subst h59
    have h := plok_59
    rw [hf, Option.bind_some, hb, Option.all_some] at h
    have e : pls 59 = pl_59 := by funext i; rfl
    rw [e]; exact h
  by_cases h60 : f = 60
  · subst h60
    have h := plok_60
    rw [hf, Option.bind_some, hb, Option.all_some] at h
    have e : pls 60 = pl_60 := by funext i; rfl
    rw [e]; exact h
  by_cases h62 : f = 62
  · subst h62
    have h := plok_62
    rw [hf, Option.bind_some, hb, Option.all_some] at h
    have e : pls 62 = pl_62 := by funext i; rfl
    rw [e]; exact h
  by_cases h68 : f = 68
  · subst h68
    have h := plok_68
    rw [hf, Option.bind_some, hb, Option.all_some] at h
    have e : pls 68 = pl_68 := by funext i; rfl
    rw [e]; exact h
  by_cases h70 : f = 70
  · subst h70
    have h := plok_70
    rw [hf, Option.bind_some, hb, Option.all_some] at h
    have e : pls 70 = pl_70 := by funext i; rfl
    rw [e]; exact h
  by_cases h75 : f = 75
  · subst h75
    have h := plok_75
    rw [hf, Option.bind_some, hb, Option.all_some] at h
    have e : pls 75 = pl_75 := by funext i; rfl
    rw [e]; exact h
  by_cases h76 : f = 76
  · subst h76
    have h := plok_76
    rw [hf, Option.bind_some, hb, Option.all_some] at h
    have e : pls 76 = pl_76 := by funext i; rfl
    rw [e]; exact h
  by_cases h79 : f = 79
  · subst h79
    have h := plok_79
    rw [hf, Option.bind_some, hb, Option.all_some] at h
    have e : pls 79 = pl_79 := by funext i; rfl
    rw [e]; exact h
  by_cases h82 : f = 82
  · subst h82
    have h := plok_82
    rw [hf, Option.bind_some, hb, Option.all_some] at h
    have e : pls 82 = pl_82 := by funext i; rfl
    rw [e]; exact h
  by_cases h83 : f = 83
  · subst h83
    have h := plok_83
    rw [hf, Option.bind_some, hb, Option.all_some] at h
    have e : pls 83 = pl_83 := by funext i; rfl
    rw [e]; exact h
  by_cases h85 : f = 85
  · subst h85
    have h := plok_85
    rw [hf, Option.bind_some, hb, Option.all_some] at h
    have e : pls 85 = pl_85 := by funext i; rfl
    rw [e]; exact h
  by_cases h87 : f = 87
  · subst h87
    have h := plok_87
    rw [hf, Option.bind_some, hb, Option.all_some] at h
    have e : pls 87 = pl_87 := by funext i; rfl
    rw [e]; exact h
  by_cases h88 : f = 88
  · subst h88
    have h := plok_88
    rw [hf, Option.bind_some, hb, Option.all_some] at h
    have e : pls 88 = pl_88 := by funext i; rfl
    rw [e]; exact h
  by_cases h89 : f = 89
  · subst h89
    have h := plok_89
    rw [hf, Option.bind_some, hb, Option.all_some] at h
    have e : pls 89 = pl_89 := by funext i; rfl
    rw [e]; exact h
  by_cases h92 : f = 92
  · subst h92
    have h := plok_92
    rw [hf, Option.bind_some, hb, Option.all_some] at h
    have e : pls 92 = pl_92 := by funext i; rfl
    rw [e]; exact h
  by_cases h95 : f = 95
  · subst h95
    have h := plok_95
    rw [hf, Option.bind_some, hb, Option.all_some] at h
    have e : pls 95 = pl_95 := by funext i; rfl
    rw [e]; exact h
  by_cases h96 : f = 96
  · subst h96
    have h := plok_96
    rw [hf, Option.bind_some, hb, Option.all_some] at h
    have e : pls 96 = pl_96 := by funext i; rfl
    rw [e]; exact h
  by_cases h102 : f = 102
  · subst h102
    have h := plok_102
    rw [hf, Option.bind_some, hb, Option.all_some] at h
    have e : pls 102 = pl_102 := by funext i; rfl
    rw [e]; exact h
  by_cases h106 : f = 106
  · subst h106
    have h := plok_106
    rw [hf, Option.bind_some, hb, Option.all_some] at h
    have e : pls 106 = pl_106 := by funext i; rfl
    rw [e]; exact h
  by_cases h109 : f = 109
  · subst h109
    have h := plok_109
    rw [hf, Option.bind_some, hb, Option.all_some] at h
    have e : pls 109 = pl_109 := by funext i; rfl
    rw [e]; exact h
  by_cases h114 : f = 114
  · subst h114
    have h := plok_114
    rw [hf, Option.bind_some, hb, Option.all_some] at h
    have e : pls 114 = pl_114 := by funext i; rfl
    rw [e]; exact h
  by_cases h117 : f = 117
  · subst h117
    have h := plok_117
    rw [hf, Option.bind_some, hb, Option.all_some] at h
    have e : pls 117 = pl_117 := by funext i; rfl
    rw [e]; exact h
  exact plOk_none (fun i => by simp only [pls, beq_dec', h3, h4, h5, h6, h7, h9, h12, h15, h20, h25, h27, h34, h36, h37, h41, h42, h44, h45, h46, h48, h49, h50, h51, h52, h59, h60, h62, h68, h70, h75, h76, h79, h82, h83, h85, h87, h88, h89, h92, h95, h96, h102, h106, h109, h114, h117, decide_false, cond_false]) c
theorem runs {f : FuncId} {args : List MV} {r : MV} (N n : Nat) (hcl : clBs args = true) (hcr : clB r = true) (h : ∀ σ, (match callE Tryz.prog pls kn iso roF N n f args [] σ 0 with | some ((v, _), _) => eqB v r | none => false) = true) (H : MH) :
    Spec Tryz.prog f args H fun v H' => v = r ∧ H' = H := run_bool follows pls fok N n kn_spec iso roF hcl hcr h H
end Go.Proofs.YtdbngjlhcjjhbaaGreatDoor.M
