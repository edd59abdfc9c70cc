/- The logic and the contracts that the laws stand on, part 11. -/
import Derived.Test.YtndoembhbfiokaaGreatDoorAaj
import Derived.Test.YtndoembhbfiokaaGreatDoorProg
set_option linter.unusedVariables false
namespace Go.Proofs.YtndoembhbfiokaaGreatDoor.Am
open Go.RowKit Go.Proofs
@[simp] theorem ld3 : ldOf Tryz.prog 3 = some (1, false) := by kernel_rfl
@[simp] theorem sz3 : szOf Tryz.prog 3 = some 1 := by kernel_rfl
@[simp] theorem ze3 : zeOf Tryz.prog 3 = some (.int .i64 0) := by kernel_rfl
@[simp] theorem ld4 : ldOf Tryz.prog 4 = some (1, false) := by kernel_rfl
@[simp] theorem ze4 : zeOf Tryz.prog 4 = some (.bool false) := by kernel_rfl
@[simp] theorem ld5 : ldOf Tryz.prog 5 = some (1, false) := by kernel_rfl
@[simp] theorem sz5 : szOf Tryz.prog 5 = some 1 := by kernel_rfl
@[simp] theorem ze5 : zeOf Tryz.prog 5 = some (.int .u8 0) := by kernel_rfl
@[simp] theorem con9 : Tryz.prog.concrete 9 = true := by kernel_rfl
@[simp] theorem ld9 : ldOf Tryz.prog 9 = some (1, false) := by kernel_rfl
@[simp] theorem ap22 : apOf Tryz.prog 22 = some (82, 2, 24) := by kernel_rfl
@[simp] theorem ld22 : ldOf Tryz.prog 22 = some (1, false) := by kernel_rfl
@[simp] theorem sl22 : slOf Tryz.prog 22 = some (82, 2, 24) := by kernel_rfl
@[simp] theorem sz22 : szOf Tryz.prog 22 = some 1 := by kernel_rfl
@[simp] theorem ap23 : apOf Tryz.prog 23 = some (75, 3, 24) := by kernel_rfl
@[simp] theorem ld23 : ldOf Tryz.prog 23 = some (1, false) := by kernel_rfl
@[simp] theorem sl23 : slOf Tryz.prog 23 = some (75, 3, 24) := by kernel_rfl
@[simp] theorem sz23 : szOf Tryz.prog 23 = some 1 := by kernel_rfl
@[simp] theorem ap24 : apOf Tryz.prog 24 = some (119, 4, 32) := by kernel_rfl
@[simp] theorem ld24 : ldOf Tryz.prog 24 = some (1, false) := by kernel_rfl
@[simp] theorem sl24 : slOf Tryz.prog 24 = some (119, 4, 32) := by kernel_rfl
@[simp] theorem sz24 : szOf Tryz.prog 24 = some 1 := by kernel_rfl
@[simp] theorem ap25 : apOf Tryz.prog 25 = some (3, 1, 8) := by kernel_rfl
@[simp] theorem ld25 : ldOf Tryz.prog 25 = some (1, false) := by kernel_rfl
@[simp] theorem mk25 : mkOf Tryz.prog 25 = some (3, 1, 8, .int .i64 0) := by kernel_rfl
@[simp] theorem sl25 : slOf Tryz.prog 25 = some (3, 1, 8) := by kernel_rfl
@[simp] theorem sz25 : szOf Tryz.prog 25 = some 1 := by kernel_rfl
@[simp] theorem fld27_0 : fldOf Tryz.prog 27 0 = some (0, 1, false) := by kernel_rfl
@[simp] theorem fld27_1 : fldOf Tryz.prog 27 1 = some (1, 1, false) := by kernel_rfl
@[simp] theorem fld27_2 : fldOf Tryz.prog 27 2 = some (2, 1, false) := by kernel_rfl
@[simp] theorem fld27_3 : fldOf Tryz.prog 27 3 = some (3, 1, false) := by kernel_rfl
@[simp] theorem fld27_4 : fldOf Tryz.prog 27 4 = some (4, 1, false) := by kernel_rfl
@[simp] theorem fld27_5 : fldOf Tryz.prog 27 5 = some (5, 1, false) := by kernel_rfl
@[simp] theorem fld27_6 : fldOf Tryz.prog 27 6 = some (6, 1, false) := by kernel_rfl
@[simp] theorem ld27 : ldOf Tryz.prog 27 = some (7, true) := by kernel_rfl
@[simp] theorem plc27 : plcOf Tryz.prog 27 = some ([(0, 1), (1, 1), (2, 1), (3, 1), (4, 1), (5, 1), (6, 1)], [.int .i64 0, .bool false, .csl [], .csl [], .csl [], .int .i64 0, .csl []]) := by kernel_rfl
@[simp] theorem sz27 : szOf Tryz.prog 27 = some 7 := by kernel_rfl
@[simp] theorem ze27 : zeOf Tryz.prog 27 = some (.agg [.int .i64 0, .bool false, .csl [], .csl [], .csl [], .int .i64 0, .csl []]) := by kernel_rfl
@[simp] theorem ap28 : apOf Tryz.prog 28 = some (5, 1, 1) := by kernel_rfl
@[simp] theorem ld28 : ldOf Tryz.prog 28 = some (1, false) := by kernel_rfl
@[simp] theorem sl28 : slOf Tryz.prog 28 = some (5, 1, 1) := by kernel_rfl
@[simp] theorem sz28 : szOf Tryz.prog 28 = some 1 := by kernel_rfl
@[simp] theorem ld29 : ldOf Tryz.prog 29 = some (1, false) := by kernel_rfl
@[simp] theorem sz29 : szOf Tryz.prog 29 = some 1 := by kernel_rfl
@[simp] theorem fld31_0 : fldOf Tryz.prog 31 0 = some (0, 7, true) := by kernel_rfl
@[simp] theorem fld31_1 : fldOf Tryz.prog 31 1 = some (7, 7, true) := by kernel_rfl
@[simp] theorem fld31_2 : fldOf Tryz.prog 31 2 = some (14, 1, false) := by kernel_rfl
@[simp] theorem fld31_3 : fldOf Tryz.prog 31 3 = some (15, 1, false) := by kernel_rfl
@[simp] theorem fld31_4 : fldOf Tryz.prog 31 4 = some (16, 1, false) := by kernel_rfl
@[simp] theorem ap33 : apOf Tryz.prog 33 = some (80, 21, 104) := by kernel_rfl
@[simp] theorem ld33 : ldOf Tryz.prog 33 = some (1, false) := by kernel_rfl
@[simp] theorem sl33 : slOf Tryz.prog 33 = some (80, 21, 104) := by kernel_rfl
@[simp] theorem sz33 : szOf Tryz.prog 33 = some 1 := by kernel_rfl
@[simp] theorem ld34 : ldOf Tryz.prog 34 = some (1, false) := by kernel_rfl
@[simp] theorem sl34 : slOf Tryz.prog 34 = some (140, 2, 16) := by kernel_rfl
@[simp] theorem ap35 : apOf Tryz.prog 35 = some (4, 1, 1) := by kernel_rfl
@[simp] theorem ld35 : ldOf Tryz.prog 35 = some (1, false) := by kernel_rfl
@[simp] theorem mk35 : mkOf Tryz.prog 35 = some (4, 1, 1, .bool false) := by kernel_rfl
@[simp] theorem sl35 : slOf Tryz.prog 35 = some (4, 1, 1) := by kernel_rfl
@[simp] theorem sz35 : szOf Tryz.prog 35 = some 1 := by kernel_rfl
@[simp] theorem ap36 : apOf Tryz.prog 36 = some (89, 2, 32) := by kernel_rfl
@[simp] theorem ld36 : ldOf Tryz.prog 36 = some (1, false) := by kernel_rfl
@[simp] theorem mk36 : mkOf Tryz.prog 36 = some (89, 2, 32, .agg [.csl [], .int .i64 0]) := by kernel_rfl
@[simp] theorem sl36 : slOf Tryz.prog 36 = some (89, 2, 32) := by kernel_rfl
@[simp] theorem sz36 : szOf Tryz.prog 36 = some 1 := by kernel_rfl
@[simp] theorem ap37 : apOf Tryz.prog 37 = some (73, 66, 80) := by kernel_rfl
@[simp] theorem ld37 : ldOf Tryz.prog 37 = some (1, false) := by kernel_rfl
@[simp] theorem sl37 : slOf Tryz.prog 37 = some (73, 66, 80) := by kernel_rfl
@[simp] theorem sz37 : szOf Tryz.prog 37 = some 1 := by kernel_rfl
@[simp] theorem fld39_0 : fldOf Tryz.prog 39 0 = some (0, 1, false) := by kernel_rfl
@[simp] theorem fld39_1 : fldOf Tryz.prog 39 1 = some (1, 1, false) := by kernel_rfl
@[simp] theorem fld39_2 : fldOf Tryz.prog 39 2 = some (2, 1, false) := by kernel_rfl
@[simp] theorem fld39_3 : fldOf Tryz.prog 39 3 = some (3, 1, false) := by kernel_rfl
@[simp] theorem fld39_4 : fldOf Tryz.prog 39 4 = some (4, 1, false) := by kernel_rfl
@[simp] theorem fld39_5 : fldOf Tryz.prog 39 5 = some (5, 1, false) := by kernel_rfl
@[simp] theorem fld39_6 : fldOf Tryz.prog 39 6 = some (6, 1, false) := by kernel_rfl
@[simp] theorem fld39_7 : fldOf Tryz.prog 39 7 = some (7, 1, false) := by kernel_rfl
@[simp] theorem fld39_8 : fldOf Tryz.prog 39 8 = some (8, 1, false) := by kernel_rfl
@[simp] theorem fld39_9 : fldOf Tryz.prog 39 9 = some (9, 1, false) := by kernel_rfl
@[simp] theorem ld39 : ldOf Tryz.prog 39 = some (10, true) := by kernel_rfl
@[simp] theorem plc39 : plcOf Tryz.prog 39 = some ([(0, 1), (1, 1), (2, 1), (3, 1), (4, 1), (5, 1), (6, 1), (7, 1), (8, 1), (9, 1)], [.int .i64 0, .int .i64 0, .int .i64 0, .csl [], .csl [], .csl [], .csl [], .csl [], .csl [], .csl []]) := by kernel_rfl
@[simp] theorem sz39 : szOf Tryz.prog 39 = some 10 := by kernel_rfl
@[simp] theorem ze39 : zeOf Tryz.prog 39 = some (.agg [.int .i64 0, .int .i64 0, .int .i64 0, .csl [], .csl [], .csl [], .csl [], .csl [], .csl [], .csl []]) := by kernel_rfl
@[simp] theorem ld41 : ldOf Tryz.prog 41 = some (1, false) := by kernel_rfl
@[simp] theorem sz41 : szOf Tryz.prog 41 = some 1 := by kernel_rfl
@[simp] theorem ap52 : apOf Tryz.prog 52 = some (27, 7, 120) := by kernel_rfl
@[simp] theorem ld52 : ldOf Tryz.prog 52 = some (1, false) := by kernel_rfl
@[simp] theorem sl52 : slOf Tryz.prog 52 = some (27, 7, 120) := by kernel_rfl
@[simp] theorem sz52 : szOf Tryz.prog 52 = some 1 := by kernel_rfl
@[simp] theorem ap53 : apOf Tryz.prog 53 = some (143, 3, 24) := by kernel_rfl
@[simp] theorem ld53 : ldOf Tryz.prog 53 = some (1, false) := by kernel_rfl
@[simp] theorem sl53 : slOf Tryz.prog 53 = some (143, 3, 24) := by kernel_rfl
@[simp] theorem sz53 : szOf Tryz.prog 53 = some 1 := by kernel_rfl
@[simp] theorem ap54 : apOf Tryz.prog 54 = some (145, 4, 32) := by kernel_rfl
@[simp] theorem ld54 : ldOf Tryz.prog 54 = some (1, false) := by kernel_rfl
@[simp] theorem sl54 : slOf Tryz.prog 54 = some (145, 4, 32) := by kernel_rfl
@[simp] theorem sz54 : szOf Tryz.prog 54 = some 1 := by kernel_rfl
@[simp] theorem fld56_0 : fldOf Tryz.prog 56 0 = some (0, 1, false) := by kernel_rfl
@[simp] theorem fld56_1 : fldOf Tryz.prog 56 1 = some (1, 1, false) := by kernel_rfl
@[simp] theorem fld56_2 : fldOf Tryz.prog 56 2 = some (2, 1, false) := by kernel_rfl
@[simp] theorem fld56_3 : fldOf Tryz.prog 56 3 = some (3, 1, false) := by kernel_rfl
@[simp] theorem fld56_4 : fldOf Tryz.prog 56 4 = some (4, 1, false) := by kernel_rfl
@[simp] theorem fld56_5 : fldOf Tryz.prog 56 5 = some (5, 1, false) := by kernel_rfl
@[simp] theorem ld56 : ldOf Tryz.prog 56 = some (6, true) := by kernel_rfl
@[simp] theorem plc56 : plcOf Tryz.prog 56 = some ([(0, 1), (1, 1), (2, 1), (3, 1), (4, 1), (5, 1)], [.int .i64 0, .csl [], .csl [], .csl [], .csl [], .int .i64 0]) := by kernel_rfl
@[simp] theorem sz56 : szOf Tryz.prog 56 = some 6 := by kernel_rfl
@[simp] theorem ze56 : zeOf Tryz.prog 56 = some (.agg [.int .i64 0, .csl [], .csl [], .csl [], .csl [], .int .i64 0]) := by kernel_rfl
@[simp] theorem mk57 : mkOf Tryz.prog 57 = some (98, 1, 24, .csl []) := by kernel_rfl
@[simp] theorem sl57 : slOf Tryz.prog 57 = some (98, 1, 24) := by kernel_rfl
@[simp] theorem fld59_0 : fldOf Tryz.prog 59 0 = some (0, 6, true) := by kernel_rfl
@[simp] theorem fld59_1 : fldOf Tryz.prog 59 1 = some (6, 6, true) := by kernel_rfl
@[simp] theorem fld59_2 : fldOf Tryz.prog 59 2 = some (12, 1, false) := by kernel_rfl
@[simp] theorem fld59_3 : fldOf Tryz.prog 59 3 = some (13, 1, false) := by kernel_rfl
@[simp] theorem fld59_4 : fldOf Tryz.prog 59 4 = some (14, 1, false) := by kernel_rfl
@[simp] theorem ld68 : ldOf Tryz.prog 68 = some (1, false) := by kernel_rfl
@[simp] theorem ze68 : zeOf Tryz.prog 68 = some (.nilf) := by kernel_rfl
@[simp] theorem ar71 : arOf Tryz.prog 71 = some (64, 5, 1) := by kernel_rfl
@[simp] theorem eq73 : eqOf Tryz.prog 73 = some [.i, .b, .i, .i, .i, .i, .i, .i, .i, .i, .i, .i, .i, .i, .i, .i, .i, .i, .i, .i, .i, .i, .i, .i, .i, .i, .i, .i, .i, .i, .i, .i, .i, .i, .i, .i, .i, .i, .i, .i, .i, .i, .i, .i, .i, .i, .i, .i, .i, .i, .i, .i, .i, .i, .i, .i, .i, .i, .i, .i, .i, .i, .i, .i, .i, .i] := by kernel_rfl
@[simp] theorem fld73_0 : fldOf Tryz.prog 73 0 = some (0, 1, false) := by kernel_rfl
@[simp] theorem fld73_1 : fldOf Tryz.prog 73 1 = some (1, 1, false) := by kernel_rfl
@[simp] theorem fld73_2 : fldOf Tryz.prog 73 2 = some (2, 64, true) := by kernel_rfl
@[simp] theorem ld73 : ldOf Tryz.prog 73 = some (66, true) := by kernel_rfl
@[simp] theorem plc73 : plcOf Tryz.prog 73 = some ([(0, 1), (1, 1), (2, 64)], [.int .i64 0, .bool false, .int .u8 0, .int .u8 0, .int .u8 0, .int .u8 0, .int .u8 0, .int .u8 0, .int .u8 0, .int .u8 0, .int .u8 0, .int .u8 0, .int .u8 0, .int .u8 0, .int .u8 0, .int .u8 0, .int .u8 0, .int .u8 0, .int .u8 0, .int .u8 0, .int .u8 0, .int .u8 0, .int .u8 0, .int .u8 0, .int .u8 0, .int .u8 0, .int .u8 0, .int .u8 0, .int .u8 0, .int .u8 0, .int .u8 0, .int .u8 0, .int .u8 0, .int .u8 0, .int .u8 0, .int .u8 0, .int .u8 0, .int .u8 0, .int .u8 0, .int .u8 0, .int .u8 0, .int .u8 0, .int .u8 0, .int .u8 0, .int .u8 0, .int .u8 0, .int .u8 0, .int .u8 0, .int .u8 0, .int .u8 0, .int .u8 0, .int .u8 0, .int .u8 0, .int .u8 0, .int .u8 0, .int .u8 0, .int .u8 0, .int .u8 0, .int .u8 0, .int .u8 0, .int .u8 0, .int .u8 0, .int .u8 0, .int .u8 0, .int .u8 0, .int .u8 0]) := by kernel_rfl
@[simp] theorem sz73 : szOf Tryz.prog 73 = some 66 := by kernel_rfl
@[simp] theorem ze73 : zeOf Tryz.prog 73 = some (.agg [.int .i64 0, .bool false, .int .u8 0, .int .u8 0, .int .u8 0, .int .u8 0, .int .u8 0, .int .u8 0, .int .u8 0, .int .u8 0, .int .u8 0, .int .u8 0, .int .u8 0, .int .u8 0, .int .u8 0, .int .u8 0, .int .u8 0, .int .u8 0, .int .u8 0, .int .u8 0, .int .u8 0, .int .u8 0, .int .u8 0, .int .u8 0, .int .u8 0, .int .u8 0, .int .u8 0, .int .u8 0, .int .u8 0, .int .u8 0, .int .u8 0, .int .u8 0, .int .u8 0, .int .u8 0, .int .u8 0, .int .u8 0, .int .u8 0, .int .u8 0, .int .u8 0, .int .u8 0, .int .u8 0, .int .u8 0, .int .u8 0, .int .u8 0, .int .u8 0, .int .u8 0, .int .u8 0, .int .u8 0, .int .u8 0, .int .u8 0, .int .u8 0, .int .u8 0, .int .u8 0, .int .u8 0, .int .u8 0, .int .u8 0, .int .u8 0, .int .u8 0, .int .u8 0, .int .u8 0, .int .u8 0, .int .u8 0, .int .u8 0, .int .u8 0, .int .u8 0, .int .u8 0]) := by kernel_rfl
@[simp] theorem fld75_0 : fldOf Tryz.prog 75 0 = some (0, 1, false) := by kernel_rfl
@[simp] theorem fld75_1 : fldOf Tryz.prog 75 1 = some (1, 1, false) := by kernel_rfl
@[simp] theorem fld75_2 : fldOf Tryz.prog 75 2 = some (2, 1, false) := by kernel_rfl
@[simp] theorem ld75 : ldOf Tryz.prog 75 = some (3, true) := by kernel_rfl
@[simp] theorem plc75 : plcOf Tryz.prog 75 = some ([(0, 1), (1, 1), (2, 1)], [.int .i64 0, .int .i64 0, .bool false]) := by kernel_rfl
@[simp] theorem sz75 : szOf Tryz.prog 75 = some 3 := by kernel_rfl
@[simp] theorem ze75 : zeOf Tryz.prog 75 = some (.agg [.int .i64 0, .int .i64 0, .bool false]) := by kernel_rfl
@[simp] theorem ar78 : arOf Tryz.prog 78 = some (16, 29, 1) := by kernel_rfl
@[simp] theorem eq80 : eqOf Tryz.prog 80 = some [.i, .i, .i, .i, .i, .i, .i, .i, .i, .i, .i, .i, .i, .i, .i, .i, .i, .i, .i, .i, .i] := by kernel_rfl
@[simp] theorem fld80_0 : fldOf Tryz.prog 80 0 = some (0, 16, true) := by kernel_rfl
@[simp] theorem fld80_1 : fldOf Tryz.prog 80 1 = some (16, 1, false) := by kernel_rfl
@[simp] theorem fld80_2 : fldOf Tryz.prog 80 2 = some (17, 1, false) := by kernel_rfl
@[simp] theorem fld80_3 : fldOf Tryz.prog 80 3 = some (18, 1, false) := by kernel_rfl
@[simp] theorem fld80_4 : fldOf Tryz.prog 80 4 = some (19, 1, false) := by kernel_rfl
@[simp] theorem fld80_5 : fldOf Tryz.prog 80 5 = some (20, 1, false) := by kernel_rfl
@[simp] theorem ld80 : ldOf Tryz.prog 80 = some (21, true) := by kernel_rfl
@[simp] theorem plc80 : plcOf Tryz.prog 80 = some ([(0, 16), (16, 1), (17, 1), (18, 1), (19, 1), (20, 1)], [.int .u32 0, .int .u32 0, .int .u32 0, .int .u32 0, .int .u32 0, .int .u32 0, .int .u32 0, .int .u32 0, .int .u32 0, .int .u32 0, .int .u32 0, .int .u32 0, .int .u32 0, .int .u32 0, .int .u32 0, .int .u32 0, .int .u32 0, .int .i64 0, .int .i64 0, .int .i64 0, .int .i64 0]) := by kernel_rfl
@[simp] theorem sz80 : szOf Tryz.prog 80 = some 21 := by kernel_rfl
@[simp] theorem ze80 : zeOf Tryz.prog 80 = some (.agg [.int .u32 0, .int .u32 0, .int .u32 0, .int .u32 0, .int .u32 0, .int .u32 0, .int .u32 0, .int .u32 0, .int .u32 0, .int .u32 0, .int .u32 0, .int .u32 0, .int .u32 0, .int .u32 0, .int .u32 0, .int .u32 0, .int .u32 0, .int .i64 0, .int .i64 0, .int .i64 0, .int .i64 0]) := by kernel_rfl
@[simp] theorem fld82_0 : fldOf Tryz.prog 82 0 = some (0, 1, false) := by kernel_rfl
@[simp] theorem fld82_1 : fldOf Tryz.prog 82 1 = some (1, 1, false) := by kernel_rfl
@[simp] theorem ld82 : ldOf Tryz.prog 82 = some (2, true) := by kernel_rfl
@[simp] theorem plc82 : plcOf Tryz.prog 82 = some ([(0, 1), (1, 1)], [.int .i64 0, .str []]) := by kernel_rfl
@[simp] theorem sz82 : szOf Tryz.prog 82 = some 2 := by kernel_rfl
@[simp] theorem ze82 : zeOf Tryz.prog 82 = some (.agg [.int .i64 0, .str []]) := by kernel_rfl
@[simp] theorem fld84_0 : fldOf Tryz.prog 84 0 = some (0, 1, false) := by kernel_rfl
@[simp] theorem fld84_1 : fldOf Tryz.prog 84 1 = some (1, 1, false) := by kernel_rfl
@[simp] theorem ld84 : ldOf Tryz.prog 84 = some (2, true) := by kernel_rfl
@[simp] theorem plc84 : plcOf Tryz.prog 84 = some ([(0, 1), (1, 1)], [.int .i64 0, .int .i64 0]) := by kernel_rfl
@[simp] theorem sz84 : szOf Tryz.prog 84 = some 2 := by kernel_rfl
@[simp] theorem ze84 : zeOf Tryz.prog 84 = some (.agg [.int .i64 0, .int .i64 0]) := by kernel_rfl
@[simp] theorem ld87 : ldOf Tryz.prog 87 = some (1, false) := by kernel_rfl
@[simp] theorem sl87 : slOf Tryz.prog 87 = some (9, 1, 16) := by kernel_rfl
@[simp] theorem fld89_0 : fldOf Tryz.prog 89 0 = some (0, 1, false) := by kernel_rfl
@[simp] theorem fld89_1 : fldOf Tryz.prog 89 1 = some (1, 1, false) := by kernel_rfl
@[simp] theorem plc89 : plcOf Tryz.prog 89 = some ([(0, 1), (1, 1)], [.csl [], .int .i64 0]) := by kernel_rfl
@[simp] theorem ze89 : zeOf Tryz.prog 89 = some (.agg [.csl [], .int .i64 0]) := by kernel_rfl
@[simp] theorem ld92 : ldOf Tryz.prog 92 = some (1, false) := by kernel_rfl
@[simp] theorem ze92 : zeOf Tryz.prog 92 = some (.nilf) := by kernel_rfl
@[simp] theorem fld97_0 : fldOf Tryz.prog 97 0 = some (0, 1, false) := by kernel_rfl
@[simp] theorem fld97_1 : fldOf Tryz.prog 97 1 = some (1, 1, false) := by kernel_rfl
@[simp] theorem ld97 : ldOf Tryz.prog 97 = some (2, true) := by kernel_rfl
@[simp] theorem plc97 : plcOf Tryz.prog 97 = some ([(0, 1), (1, 1)], [.int .i64 0, .str []]) := by kernel_rfl
@[simp] theorem sz97 : szOf Tryz.prog 97 = some 2 := by kernel_rfl
@[simp] theorem ze97 : zeOf Tryz.prog 97 = some (.agg [.int .i64 0, .str []]) := by kernel_rfl
@[simp] theorem ap98 : apOf Tryz.prog 98 = some (97, 2, 24) := by kernel_rfl
@[simp] theorem ld98 : ldOf Tryz.prog 98 = some (1, false) := by kernel_rfl
@[simp] theorem sl98 : slOf Tryz.prog 98 = some (97, 2, 24) := by kernel_rfl
@[simp] theorem sz98 : szOf Tryz.prog 98 = some 1 := by kernel_rfl
@[simp] theorem ze98 : zeOf Tryz.prog 98 = some (.csl []) := by kernel_rfl
@[simp] theorem fld119_0 : fldOf Tryz.prog 119 0 = some (0, 1, false) := by kernel_rfl
@[simp] theorem fld119_1 : fldOf Tryz.prog 119 1 = some (1, 1, false) := by kernel_rfl
@[simp] theorem fld119_2 : fldOf Tryz.prog 119 2 = some (2, 1, false) := by kernel_rfl
@[simp] theorem fld119_3 : fldOf Tryz.prog 119 3 = some (3, 1, false) := by kernel_rfl
@[simp] theorem ld119 : ldOf Tryz.prog 119 = some (4, true) := by kernel_rfl
@[simp] theorem plc119 : plcOf Tryz.prog 119 = some ([(0, 1), (1, 1), (2, 1), (3, 1)], [.int .i64 0, .int .i64 0, .int .i64 0, .int .i64 0]) := by kernel_rfl
@[simp] theorem sz119 : szOf Tryz.prog 119 = some 4 := by kernel_rfl
@[simp] theorem ze119 : zeOf Tryz.prog 119 = some (.agg [.int .i64 0, .int .i64 0, .int .i64 0, .int .i64 0]) := by kernel_rfl
@[simp] theorem sl121 : slOf Tryz.prog 121 = some (68, 1, 8) := by kernel_rfl
@[simp] theorem con131 : Tryz.prog.concrete 131 = true := by kernel_rfl
@[simp] theorem ld131 : ldOf Tryz.prog 131 = some (1, false) := by kernel_rfl
@[simp] theorem ze131 : zeOf Tryz.prog 131 = some (.nilp) := by kernel_rfl
@[simp] theorem con133 : Tryz.prog.concrete 133 = true := by kernel_rfl
@[simp] theorem fld135_0 : fldOf Tryz.prog 135 0 = some (0, 1, false) := by kernel_rfl
@[simp] theorem fld135_1 : fldOf Tryz.prog 135 1 = some (1, 1, false) := by kernel_rfl
@[simp] theorem plc135 : plcOf Tryz.prog 135 = some ([(0, 1), (1, 1)], [.int .i64 0, .nili]) := by kernel_rfl
@[simp] theorem sl137 : slOf Tryz.prog 137 = some (84, 2, 16) := by kernel_rfl
@[simp] theorem eq140 : eqOf Tryz.prog 140 = some [.i, .i] := by kernel_rfl
@[simp] theorem fld140_0 : fldOf Tryz.prog 140 0 = some (0, 1, false) := by kernel_rfl
@[simp] theorem fld140_1 : fldOf Tryz.prog 140 1 = some (1, 1, false) := by kernel_rfl
@[simp] theorem ld140 : ldOf Tryz.prog 140 = some (2, true) := by kernel_rfl
@[simp] theorem sz140 : szOf Tryz.prog 140 = some 2 := by kernel_rfl
@[simp] theorem ze140 : zeOf Tryz.prog 140 = some (.agg [.int .i64 0, .int .i64 0]) := by kernel_rfl
@[simp] theorem eq143 : eqOf Tryz.prog 143 = some [.i, .i, .i] := by kernel_rfl
@[simp] theorem fld143_0 : fldOf Tryz.prog 143 0 = some (0, 1, false) := by kernel_rfl
@[simp] theorem fld143_1 : fldOf Tryz.prog 143 1 = some (1, 1, false) := by kernel_rfl
@[simp] theorem fld143_2 : fldOf Tryz.prog 143 2 = some (2, 1, false) := by kernel_rfl
@[simp] theorem ld143 : ldOf Tryz.prog 143 = some (3, true) := by kernel_rfl
@[simp] theorem plc143 : plcOf Tryz.prog 143 = some ([(0, 1), (1, 1), (2, 1)], [.int .i64 0, .int .i64 0, .int .i64 0]) := by kernel_rfl
@[simp] theorem sz143 : szOf Tryz.prog 143 = some 3 := by kernel_rfl
@[simp] theorem ze143 : zeOf Tryz.prog 143 = some (.agg [.int .i64 0, .int .i64 0, .int .i64 0]) := by kernel_rfl
@[simp] theorem fld145_0 : fldOf Tryz.prog 145 0 = some (0, 1, false) := by kernel_rfl
@[simp] theorem fld145_1 : fldOf Tryz.prog 145 1 = some (1, 1, false) := by kernel_rfl
@[simp] theorem fld145_2 : fldOf Tryz.prog 145 2 = some (2, 1, false) := by kernel_rfl
@[simp] theorem fld145_3 : fldOf Tryz.prog 145 3 = some (3, 1, false) := by kernel_rfl
@[simp] theorem ld145 : ldOf Tryz.prog 145 = some (4, true) := by kernel_rfl
@[simp] theorem plc145 : plcOf Tryz.prog 145 = some ([(0, 1), (1, 1), (2, 1), (3, 1)], [.int .i64 0, .int .i64 0, .int .i64 0, .int .i64 0]) := by kernel_rfl
@[simp] theorem sz145 : szOf Tryz.prog 145 = some 4 := by kernel_rfl
@[simp] theorem ze145 : zeOf Tryz.prog 145 = some (.agg [.int .i64 0, .int .i64 0, .int .i64 0, .int .i64 0]) := by kernel_rfl
@[simp] theorem sl146 : slOf Tryz.prog 146 = some (92, 1, 8) := by kernel_rfl
@[simp] theorem fld147_0 : fldOf Tryz.prog 147 0 = some (0, 1, false) := by kernel_rfl
@[simp] theorem fld147_1 : fldOf Tryz.prog 147 1 = some (1, 1, false) := by kernel_rfl
@[simp] theorem ld147 : ldOf Tryz.prog 147 = some (2, true) := by kernel_rfl
@[simp] theorem plc147 : plcOf Tryz.prog 147 = some ([(0, 1), (1, 1)], [.int .i64 0, .int .i64 0]) := by kernel_rfl
@[simp] theorem sz147 : szOf Tryz.prog 147 = some 2 := by kernel_rfl
@[simp] theorem ze147 : zeOf Tryz.prog 147 = some (.agg [.int .i64 0, .int .i64 0]) := by kernel_rfl
@[simp] theorem fld159_0 : fldOf Tryz.prog 159 0 = some (0, 1, false) := by kernel_rfl
@[simp] theorem fld159_1 : fldOf Tryz.prog 159 1 = some (1, 1, false) := by kernel_rfl
@[simp] theorem plc159 : plcOf Tryz.prog 159 = some ([(0, 1), (1, 1)], [.csl [], .nili]) := by kernel_rfl
@[simp] theorem ld165 : ldOf Tryz.prog 165 = some (1, false) := by kernel_rfl
@[simp] theorem sz165 : szOf Tryz.prog 165 = some 1 := by kernel_rfl
@[simp] theorem ld171 : ldOf Tryz.prog 171 = some (3, true) := by kernel_rfl
@[simp] theorem sz171 : szOf Tryz.prog 171 = some 3 := by kernel_rfl
@[simp] theorem ze171 : zeOf Tryz.prog 171 = some (.agg [.nilp, .nilp, .int .u64 0]) := by kernel_rfl
@[simp] theorem sl201 : slOf Tryz.prog 201 = some (41, 1, 16) := by kernel_rfl
@[simp] theorem ar220 : arOf Tryz.prog 220 = some (256, 29, 1) := by kernel_rfl
@[simp] theorem plc220 : plcOf Tryz.prog 220 = some ([(0, 1), (1, 1), (2, 1), (3, 1), (4, 1), (5, 1), (6, 1), (7, 1), (8, 1), (9, 1), (10, 1), (11, 1), (12, 1), (13, 1), (14, 1), (15, 1), (16, 1), (17, 1), (18, 1), (19, 1), (20, 1), (21, 1), (22, 1), (23, 1), (24, 1), (25, 1), (26, 1), (27, 1), (28, 1), (29, 1), (30, 1), (31, 1), (32, 1), (33, 1), (34, 1), (35, 1), (36, 1), (37, 1), (38, 1), (39, 1), (40, 1), (41, 1), (42, 1), (43, 1), (44, 1), (45, 1), (46, 1), (47, 1), (48, 1), (49, 1), (50, 1), (51, 1), (52, 1), (53, 1), (54, 1), (55, 1), (56, 1), (57, 1), (58, 1), (59, 1), (60, 1), (61, 1), (62, 1), (63, 1), (64, 1), (65, 1), (66, 1), (67, 1), (68, 1), (69, 1), (70, 1), (71, 1), (72, 1), (73, 1), (74, 1), (75, 1), (76, 1), (77, 1), (78, 1), (79, 1), (80, 1), (81, 1), (82, 1), (83, 1), (84, 1), (85, 1), (86, 1), (87, 1), (88, 1), (89, 1), (90, 1), (91, 1), (92, 1), (93, 1), (94, 1), (95, 1), (96, 1), (97, 1), (98, 1), (99, 1), (100, 1), (101, 1), (102, 1), (103, 1), (104, 1), (105, 1), (106, 1), (107, 1), (108, 1), (109, 1), (110, 1), (111, 1), (112, 1), (113, 1), (114, 1), (115, 1), (116, 1), (117, 1), (118, 1), (119, 1), (120, 1), (121, 1), (122, 1), (123, 1), (124, 1), (125, 1), (126, 1), (127, 1), (128, 1), (129, 1), (130, 1), (131, 1), (132, 1), (133, 1), (134, 1), (135, 1), (136, 1), (137, 1), (138, 1), (139, 1), (140, 1), (141, 1), (142, 1), (143, 1), (144, 1), (145, 1), (146, 1), (147, 1), (148, 1), (149, 1), (150, 1), (151, 1), (152, 1), (153, 1), (154, 1), (155, 1), (156, 1), (157, 1), (158, 1), (159, 1), (160, 1), (161, 1), (162, 1), (163, 1), (164, 1), (165, 1), (166, 1), (167, 1), (168, 1), (169, 1), (170, 1), (171, 1), (172, 1), (173, 1), (174, 1), (175, 1), (176, 1), (177, 1), (178, 1), (179, 1), (180, 1), (181, 1), (182, 1), (183, 1), (184, 1), (185, 1), (186, 1), (187, 1), (188, 1), (189, 1), (190, 1), (191, 1), (192, 1), (193, 1), (194, 1), (195, 1), (196, 1), (197, 1), (198, 1), (199, 1), (200, 1), (201, 1), (202, 1), (203, 1), (204, 1), (205, 1), (206, 1), (207, 1), (208, 1), (209, 1), (210, 1), (211, 1), (212, 1), (213, 1), (214, 1), (215, 1), (216, 1), (217, 1), (218, 1), (219, 1), (220, 1), (221, 1), (222, 1), (223, 1), (224, 1), (225, 1), (226, 1), (227, 1), (228, 1), (229, 1), (230, 1), (231, 1), (232, 1), (233, 1), (234, 1), (235, 1), (236, 1), (237, 1), (238, 1), (239, 1), (240, 1), (241, 1), (242, 1), (243, 1), (244, 1), (245, 1), (246, 1), (247, 1), (248, 1), (249, 1), (250, 1), (251, 1), (252, 1), (253, 1), (254, 1), (255, 1)], [.int .u32 0, .int .u32 0, .int .u32 0, .int .u32 0, .int .u32 0, .int .u32 0, .int .u32 0, .int .u32 0, .int .u32 0, .int .u32 0, .int .u32 0, .int .u32 0, .int .u32 0, .int .u32 0, .int .u32 0, .int .u32 0, .int .u32 0, .int .u32 0, .int .u32 0, .int .u32 0, .int .u32 0, .int .u32 0, .int .u32 0, .int .u32 0, .int .u32 0, .int .u32 0, .int .u32 0, .int .u32 0, .int .u32 0, .int .u32 0, .int .u32 0, .int .u32 0, .int .u32 0, .int .u32 0, .int .u32 0, .int .u32 0, .int .u32 0, .int .u32 0, .int .u32 0, .int .u32 0, .int .u32 0, .int .u32 0, .int .u32 0, .int .u32 0, .int .u32 0, .int .u32 0, .int .u32 0, .int .u32 0, .int .u32 0, .int .u32 0, .int .u32 0, .int .u32 0, .int .u32 0, .int .u32 0, .int .u32 0, .int .u32 0, .int .u32 0, .int .u32 0, .int .u32 0, .int .u32 0, .int .u32 0, .int .u32 0, .int .u32 0, .int .u32 0, .int .u32 0, .int .u32 0, .int .u32 0, .int .u32 0, .int .u32 0, .int .u32 0, .int .u32 0, .int .u32 0, .int .u32 0, .int .u32 0, .int .u32 0, .int .u32 0, .int .u32 0, .int .u32 0, .int .u32 0, .int .u32 0, .int .u32 0, .int .u32 0, .int .u32 0, .int .u32 0, .int .u32 0, .int .u32 0, .int .u32 0, .int .u32 0, .int .u32 0, .int .u32 0, .int .u32 0, .int .u32 0, .int .u32 0, .int .u32 0, .int .u32 0, .int .u32 0, .int .u32 0, .int .u32 0, .int .u32 0, .int .u32 0, .int .u32 0, .int .u32 0, .int .u32 0, .int .u32 0, .int .u32 0, .int .u32 0, .int .u32 0, .int .u32 0, .int .u32 0, .int .u32 0, .int .u32 0, .int .u32 0, .int .u32 0, .int .u32 0, .int .u32 0, .int .u32 0, .int .u32 0, .int .u32 0, .int .u32 0, .int .u32 0, .int .u32 0, .int .u32 0, .int .u32 0, .int .u32 0, .int .u32 0, .int .u32 0, .int .u32 0, .int .u32 0, .int .u32 0, .int .u32 0, .int .u32 0, .int .u32 0, .int .u32 0, .int .u32 0, .int .u32 0, .int .u32 0, .int .u32 0, .int .u32 0, .int .u32 0, .int .u32 0, .int .u32 0, .int .u32 0, .int .u32 0, .int .u32 0, .int .u32 0, .int .u32 0, .int .u32 0, .int .u32 0, .int .u32 0, .int .u32 0, .int .u32 0, .int .u32 0, .int .u32 0, .int .u32 0, .int .u32 0, .int .u32 0, .int .u32 0, .int .u32 0, .int .u32 0, .int .u32 0, .int .u32 0, .int .u32 0, .int .u32 0, .int .u32 0, .int .u32 0, .int .u32 0, .int .u32 0, .int .u32 0, .int .u32 0, .int .u32 0, .int .u32 0, .int .u32 0, .int .u32 0, .int .u32 0, .int .u32 0, .int .u32 0, .int .u32 0, .int .u32 0, .int .u32 0, .int .u32 0, .int .u32 0, .int .u32 0, .int .u32 0, .int .u32 0, .int .u32 0, .int .u32 0, .int .u32 0, .int .u32 0, .int .u32 0, .int .u32 0, .int .u32 0, .int .u32 0, .int .u32 0, .int .u32 0, .int .u32 0, .int .u32 0, .int .u32 0, .int .u32 0, .int .u32 0, .int .u32 0, .int .u32 0, .int .u32 0, .int .u32 0, .int .u32 0, .int .u32 0, .int .u32 0, .int .u32 0, .int .u32 0, .int .u32 0, .int .u32 0, .int .u32 0, .int .u32 0, .int .u32 0, .int .u32 0, .int .u32 0, .int .u32 0, .int .u32 0, .int .u32 0, .int .u32 0, .int .u32 0, .int .u32 0, .int .u32 0, .int .u32 0, .int .u32 0, .int .u32 0, .int .u32 0, .int .u32 0, .int .u32 0, .int .u32 0, .int .u32 0, .int .u32 0, .int .u32 0, .int .u32 0, .int .u32 0, .int .u32 0, .int .u32 0, .int .u32 0, .int .u32 0, .int .u32 0, .int .u32 0, .int .u32 0, .int .u32 0, .int .u32 0, .int .u32 0, .int .u32 0, .int .u32 0, .int .u32 0, .int .u32 0, .int .u32 0, .int .u32 0, .int .u32 0, .int .u32 0, .int .u32 0, .int .u32 0, .int .u32 0, .int .u32 0]) := by kernel_rfl
@[simp] theorem con222 : Tryz.prog.concrete 222 = true := by kernel_rfl
@[simp] theorem plc243 : plcOf Tryz.prog 243 = some ([(0, 1)], [.str []]) := by kernel_rfl
@[simp] theorem con254 : Tryz.prog.concrete 254 = true := by kernel_rfl
end Go.Proofs.YtndoembhbfiokaaGreatDoor.Am
