/- The logic and the contracts that the laws stand on, part 11. -/
import Derived.Test.YtndoembhbfiokaaDoorAaj
import Derived.Test.YtndoembhbfiokaaDoorProg
set_option linter.unusedVariables false
namespace Go.Proofs.YtndoembhbfiokaaDoor.Am
open Go.RowKit Go.Proofs
@[simp] theorem ld3 : ldOf Tryd.prog 3 = some (1, false) := by kernel_rfl
@[simp] theorem sz3 : szOf Tryd.prog 3 = some 1 := by kernel_rfl
@[simp] theorem ze3 : zeOf Tryd.prog 3 = some (.int .i64 0) := by kernel_rfl
@[simp] theorem ld4 : ldOf Tryd.prog 4 = some (1, false) := by kernel_rfl
@[simp] theorem ze4 : zeOf Tryd.prog 4 = some (.bool false) := by kernel_rfl
@[simp] theorem ld5 : ldOf Tryd.prog 5 = some (1, false) := by kernel_rfl
@[simp] theorem ze5 : zeOf Tryd.prog 5 = some (.int .u8 0) := by kernel_rfl
@[simp] theorem con9 : Tryd.prog.concrete 9 = true := by kernel_rfl
@[simp] theorem ld9 : ldOf Tryd.prog 9 = some (1, false) := by kernel_rfl
@[simp] theorem ap22 : apOf Tryd.prog 22 = some (56, 7, 120) := by kernel_rfl
@[simp] theorem ld22 : ldOf Tryd.prog 22 = some (1, false) := by kernel_rfl
@[simp] theorem sl22 : slOf Tryd.prog 22 = some (56, 7, 120) := by kernel_rfl
@[simp] theorem sz22 : szOf Tryd.prog 22 = some 1 := by kernel_rfl
@[simp] theorem ap23 : apOf Tryd.prog 23 = some (3, 1, 8) := by kernel_rfl
@[simp] theorem ld23 : ldOf Tryd.prog 23 = some (1, false) := by kernel_rfl
@[simp] theorem sl23 : slOf Tryd.prog 23 = some (3, 1, 8) := by kernel_rfl
@[simp] theorem sz23 : szOf Tryd.prog 23 = some 1 := by kernel_rfl
@[simp] theorem ap24 : apOf Tryd.prog 24 = some (77, 3, 24) := by kernel_rfl
@[simp] theorem ld24 : ldOf Tryd.prog 24 = some (1, false) := by kernel_rfl
@[simp] theorem sl24 : slOf Tryd.prog 24 = some (77, 3, 24) := by kernel_rfl
@[simp] theorem sz24 : szOf Tryd.prog 24 = some 1 := by kernel_rfl
@[simp] theorem ap25 : apOf Tryd.prog 25 = some (47, 4, 32) := by kernel_rfl
@[simp] theorem ld25 : ldOf Tryd.prog 25 = some (1, false) := by kernel_rfl
@[simp] theorem sl25 : slOf Tryd.prog 25 = some (47, 4, 32) := by kernel_rfl
@[simp] theorem sz25 : szOf Tryd.prog 25 = some 1 := by kernel_rfl
@[simp] theorem fld27_0 : fldOf Tryd.prog 27 0 = some (0, 1, false) := by kernel_rfl
@[simp] theorem fld27_1 : fldOf Tryd.prog 27 1 = some (1, 1, false) := by kernel_rfl
@[simp] theorem fld27_2 : fldOf Tryd.prog 27 2 = some (2, 1, false) := by kernel_rfl
@[simp] theorem fld27_3 : fldOf Tryd.prog 27 3 = some (3, 1, false) := by kernel_rfl
@[simp] theorem fld27_4 : fldOf Tryd.prog 27 4 = some (4, 1, false) := by kernel_rfl
@[simp] theorem fld27_5 : fldOf Tryd.prog 27 5 = some (5, 1, false) := by kernel_rfl
@[simp] theorem ld27 : ldOf Tryd.prog 27 = some (6, true) := by kernel_rfl
@[simp] theorem plc27 : plcOf Tryd.prog 27 = some ([(0, 1), (1, 1), (2, 1), (3, 1), (4, 1), (5, 1)], [.int .i64 0, .csl [], .csl [], .csl [], .csl [], .int .i64 0]) := by kernel_rfl
@[simp] theorem sz27 : szOf Tryd.prog 27 = some 6 := by kernel_rfl
@[simp] theorem ze27 : zeOf Tryd.prog 27 = some (.agg [.int .i64 0, .csl [], .csl [], .csl [], .csl [], .int .i64 0]) := by kernel_rfl
@[simp] theorem ap28 : apOf Tryd.prog 28 = some (4, 1, 1) := by kernel_rfl
@[simp] theorem ld28 : ldOf Tryd.prog 28 = some (1, false) := by kernel_rfl
@[simp] theorem mk28 : mkOf Tryd.prog 28 = some (4, 1, 1, .bool false) := by kernel_rfl
@[simp] theorem sl28 : slOf Tryd.prog 28 = some (4, 1, 1) := by kernel_rfl
@[simp] theorem ap29 : apOf Tryd.prog 29 = some (43, 1, 24) := by kernel_rfl
@[simp] theorem ld29 : ldOf Tryd.prog 29 = some (1, false) := by kernel_rfl
@[simp] theorem mk29 : mkOf Tryd.prog 29 = some (43, 1, 24, .csl []) := by kernel_rfl
@[simp] theorem sl29 : slOf Tryd.prog 29 = some (43, 1, 24) := by kernel_rfl
@[simp] theorem fld31_0 : fldOf Tryd.prog 31 0 = some (0, 6, true) := by kernel_rfl
@[simp] theorem fld31_1 : fldOf Tryd.prog 31 1 = some (6, 6, true) := by kernel_rfl
@[simp] theorem fld31_2 : fldOf Tryd.prog 31 2 = some (12, 1, false) := by kernel_rfl
@[simp] theorem fld31_3 : fldOf Tryd.prog 31 3 = some (13, 1, false) := by kernel_rfl
@[simp] theorem fld31_4 : fldOf Tryd.prog 31 4 = some (14, 1, false) := by kernel_rfl
@[simp] theorem ld36 : ldOf Tryd.prog 36 = some (1, false) := by kernel_rfl
@[simp] theorem sz36 : szOf Tryd.prog 36 = some 1 := by kernel_rfl
@[simp] theorem ap43 : apOf Tryd.prog 43 = some (50, 2, 24) := by kernel_rfl
@[simp] theorem ld43 : ldOf Tryd.prog 43 = some (1, false) := by kernel_rfl
@[simp] theorem sl43 : slOf Tryd.prog 43 = some (50, 2, 24) := by kernel_rfl
@[simp] theorem sz43 : szOf Tryd.prog 43 = some 1 := by kernel_rfl
@[simp] theorem ze43 : zeOf Tryd.prog 43 = some (.csl []) := by kernel_rfl
@[simp] theorem eq47 : eqOf Tryd.prog 47 = some [.i, .i, .i, .i] := by kernel_rfl
@[simp] theorem fld47_0 : fldOf Tryd.prog 47 0 = some (0, 1, false) := by kernel_rfl
@[simp] theorem fld47_1 : fldOf Tryd.prog 47 1 = some (1, 1, false) := by kernel_rfl
@[simp] theorem fld47_2 : fldOf Tryd.prog 47 2 = some (2, 1, false) := by kernel_rfl
@[simp] theorem fld47_3 : fldOf Tryd.prog 47 3 = some (3, 1, false) := by kernel_rfl
@[simp] theorem ld47 : ldOf Tryd.prog 47 = some (4, true) := by kernel_rfl
@[simp] theorem plc47 : plcOf Tryd.prog 47 = some ([(0, 1), (1, 1), (2, 1), (3, 1)], [.int .i64 0, .int .i64 0, .int .i64 0, .int .i64 0]) := by kernel_rfl
@[simp] theorem sz47 : szOf Tryd.prog 47 = some 4 := by kernel_rfl
@[simp] theorem ze47 : zeOf Tryd.prog 47 = some (.agg [.int .i64 0, .int .i64 0, .int .i64 0, .int .i64 0]) := by kernel_rfl
@[simp] theorem eq50 : eqOf Tryd.prog 50 = some [.i, .s] := by kernel_rfl
@[simp] theorem fld50_0 : fldOf Tryd.prog 50 0 = some (0, 1, false) := by kernel_rfl
@[simp] theorem fld50_1 : fldOf Tryd.prog 50 1 = some (1, 1, false) := by kernel_rfl
@[simp] theorem ld50 : ldOf Tryd.prog 50 = some (2, true) := by kernel_rfl
@[simp] theorem plc50 : plcOf Tryd.prog 50 = some ([(0, 1), (1, 1)], [.int .i64 0, .str []]) := by kernel_rfl
@[simp] theorem sz50 : szOf Tryd.prog 50 = some 2 := by kernel_rfl
@[simp] theorem ze50 : zeOf Tryd.prog 50 = some (.agg [.int .i64 0, .str []]) := by kernel_rfl
@[simp] theorem ap52 : apOf Tryd.prog 52 = some (67, 2, 24) := by kernel_rfl
@[simp] theorem ld52 : ldOf Tryd.prog 52 = some (1, false) := by kernel_rfl
@[simp] theorem sl52 : slOf Tryd.prog 52 = some (67, 2, 24) := by kernel_rfl
@[simp] theorem sz52 : szOf Tryd.prog 52 = some 1 := by kernel_rfl
@[simp] theorem ap53 : apOf Tryd.prog 53 = some (69, 3, 24) := by kernel_rfl
@[simp] theorem ld53 : ldOf Tryd.prog 53 = some (1, false) := by kernel_rfl
@[simp] theorem sl53 : slOf Tryd.prog 53 = some (69, 3, 24) := by kernel_rfl
@[simp] theorem sz53 : szOf Tryd.prog 53 = some 1 := by kernel_rfl
@[simp] theorem ap54 : apOf Tryd.prog 54 = some (107, 4, 32) := by kernel_rfl
@[simp] theorem ld54 : ldOf Tryd.prog 54 = some (1, false) := by kernel_rfl
@[simp] theorem sl54 : slOf Tryd.prog 54 = some (107, 4, 32) := by kernel_rfl
@[simp] theorem sz54 : szOf Tryd.prog 54 = some 1 := by kernel_rfl
@[simp] theorem fld56_0 : fldOf Tryd.prog 56 0 = some (0, 1, false) := by kernel_rfl
@[simp] theorem fld56_1 : fldOf Tryd.prog 56 1 = some (1, 1, false) := by kernel_rfl
@[simp] theorem fld56_2 : fldOf Tryd.prog 56 2 = some (2, 1, false) := by kernel_rfl
@[simp] theorem fld56_3 : fldOf Tryd.prog 56 3 = some (3, 1, false) := by kernel_rfl
@[simp] theorem fld56_4 : fldOf Tryd.prog 56 4 = some (4, 1, false) := by kernel_rfl
@[simp] theorem fld56_5 : fldOf Tryd.prog 56 5 = some (5, 1, false) := by kernel_rfl
@[simp] theorem fld56_6 : fldOf Tryd.prog 56 6 = some (6, 1, false) := by kernel_rfl
@[simp] theorem ld56 : ldOf Tryd.prog 56 = some (7, true) := by kernel_rfl
@[simp] theorem plc56 : plcOf Tryd.prog 56 = some ([(0, 1), (1, 1), (2, 1), (3, 1), (4, 1), (5, 1), (6, 1)], [.int .i64 0, .bool false, .csl [], .csl [], .csl [], .int .i64 0, .csl []]) := by kernel_rfl
@[simp] theorem sz56 : szOf Tryd.prog 56 = some 7 := by kernel_rfl
@[simp] theorem ze56 : zeOf Tryd.prog 56 = some (.agg [.int .i64 0, .bool false, .csl [], .csl [], .csl [], .int .i64 0, .csl []]) := by kernel_rfl
@[simp] theorem ap57 : apOf Tryd.prog 57 = some (5, 1, 1) := by kernel_rfl
@[simp] theorem ld57 : ldOf Tryd.prog 57 = some (1, false) := by kernel_rfl
@[simp] theorem sl57 : slOf Tryd.prog 57 = some (5, 1, 1) := by kernel_rfl
@[simp] theorem sz57 : szOf Tryd.prog 57 = some 1 := by kernel_rfl
@[simp] theorem ld58 : ldOf Tryd.prog 58 = some (1, false) := by kernel_rfl
@[simp] theorem sz58 : szOf Tryd.prog 58 = some 1 := by kernel_rfl
@[simp] theorem fld60_0 : fldOf Tryd.prog 60 0 = some (0, 7, true) := by kernel_rfl
@[simp] theorem fld60_1 : fldOf Tryd.prog 60 1 = some (7, 7, true) := by kernel_rfl
@[simp] theorem fld60_2 : fldOf Tryd.prog 60 2 = some (14, 1, false) := by kernel_rfl
@[simp] theorem fld60_3 : fldOf Tryd.prog 60 3 = some (15, 1, false) := by kernel_rfl
@[simp] theorem fld60_4 : fldOf Tryd.prog 60 4 = some (16, 1, false) := by kernel_rfl
@[simp] theorem eq67 : eqOf Tryd.prog 67 = some [.i, .s] := by kernel_rfl
@[simp] theorem fld67_0 : fldOf Tryd.prog 67 0 = some (0, 1, false) := by kernel_rfl
@[simp] theorem fld67_1 : fldOf Tryd.prog 67 1 = some (1, 1, false) := by kernel_rfl
@[simp] theorem ld67 : ldOf Tryd.prog 67 = some (2, true) := by kernel_rfl
@[simp] theorem plc67 : plcOf Tryd.prog 67 = some ([(0, 1), (1, 1)], [.int .i64 0, .str []]) := by kernel_rfl
@[simp] theorem sz67 : szOf Tryd.prog 67 = some 2 := by kernel_rfl
@[simp] theorem ze67 : zeOf Tryd.prog 67 = some (.agg [.int .i64 0, .str []]) := by kernel_rfl
@[simp] theorem eq69 : eqOf Tryd.prog 69 = some [.i, .i, .b] := by kernel_rfl
@[simp] theorem fld69_0 : fldOf Tryd.prog 69 0 = some (0, 1, false) := by kernel_rfl
@[simp] theorem fld69_1 : fldOf Tryd.prog 69 1 = some (1, 1, false) := by kernel_rfl
@[simp] theorem fld69_2 : fldOf Tryd.prog 69 2 = some (2, 1, false) := by kernel_rfl
@[simp] theorem ld69 : ldOf Tryd.prog 69 = some (3, true) := by kernel_rfl
@[simp] theorem plc69 : plcOf Tryd.prog 69 = some ([(0, 1), (1, 1), (2, 1)], [.int .i64 0, .int .i64 0, .bool false]) := by kernel_rfl
@[simp] theorem sz69 : szOf Tryd.prog 69 = some 3 := by kernel_rfl
@[simp] theorem ze69 : zeOf Tryd.prog 69 = some (.agg [.int .i64 0, .int .i64 0, .bool false]) := by kernel_rfl
@[simp] theorem ld71 : ldOf Tryd.prog 71 = some (1, false) := by kernel_rfl
@[simp] theorem ze71 : zeOf Tryd.prog 71 = some (.nilf) := by kernel_rfl
@[simp] theorem eq77 : eqOf Tryd.prog 77 = some [.i, .i, .i] := by kernel_rfl
@[simp] theorem fld77_0 : fldOf Tryd.prog 77 0 = some (0, 1, false) := by kernel_rfl
@[simp] theorem fld77_1 : fldOf Tryd.prog 77 1 = some (1, 1, false) := by kernel_rfl
@[simp] theorem fld77_2 : fldOf Tryd.prog 77 2 = some (2, 1, false) := by kernel_rfl
@[simp] theorem ld77 : ldOf Tryd.prog 77 = some (3, true) := by kernel_rfl
@[simp] theorem plc77 : plcOf Tryd.prog 77 = some ([(0, 1), (1, 1), (2, 1)], [.int .i64 0, .int .i64 0, .int .i64 0]) := by kernel_rfl
@[simp] theorem sz77 : szOf Tryd.prog 77 = some 3 := by kernel_rfl
@[simp] theorem ze77 : zeOf Tryd.prog 77 = some (.agg [.int .i64 0, .int .i64 0, .int .i64 0]) := by kernel_rfl
@[simp] theorem sl81 : slOf Tryd.prog 81 = some (27, 6, 112) := by kernel_rfl
@[simp] theorem fld83_0 : fldOf Tryd.prog 83 0 = some (0, 1, false) := by kernel_rfl
@[simp] theorem fld83_1 : fldOf Tryd.prog 83 1 = some (1, 1, false) := by kernel_rfl
@[simp] theorem ld83 : ldOf Tryd.prog 83 = some (2, true) := by kernel_rfl
@[simp] theorem plc83 : plcOf Tryd.prog 83 = some ([(0, 1), (1, 1)], [.int .i64 0, .int .i64 0]) := by kernel_rfl
@[simp] theorem sz83 : szOf Tryd.prog 83 = some 2 := by kernel_rfl
@[simp] theorem ze83 : zeOf Tryd.prog 83 = some (.agg [.int .i64 0, .int .i64 0]) := by kernel_rfl
@[simp] theorem fld86_0 : fldOf Tryd.prog 86 0 = some (0, 1, false) := by kernel_rfl
@[simp] theorem fld86_1 : fldOf Tryd.prog 86 1 = some (1, 1, false) := by kernel_rfl
@[simp] theorem ld86 : ldOf Tryd.prog 86 = some (2, true) := by kernel_rfl
@[simp] theorem plc86 : plcOf Tryd.prog 86 = some ([(0, 1), (1, 1)], [.int .i64 0, .int .i64 0]) := by kernel_rfl
@[simp] theorem sz86 : szOf Tryd.prog 86 = some 2 := by kernel_rfl
@[simp] theorem ze86 : zeOf Tryd.prog 86 = some (.agg [.int .i64 0, .int .i64 0]) := by kernel_rfl
@[simp] theorem ld90 : ldOf Tryd.prog 90 = some (1, false) := by kernel_rfl
@[simp] theorem ze90 : zeOf Tryd.prog 90 = some (.nilf) := by kernel_rfl
@[simp] theorem ap93 : apOf Tryd.prog 93 = some (135, 21, 104) := by kernel_rfl
@[simp] theorem ld93 : ldOf Tryd.prog 93 = some (1, false) := by kernel_rfl
@[simp] theorem sl93 : slOf Tryd.prog 93 = some (135, 21, 104) := by kernel_rfl
@[simp] theorem sz93 : szOf Tryd.prog 93 = some 1 := by kernel_rfl
@[simp] theorem mk95 : mkOf Tryd.prog 95 = some (224, 2, 32, .agg [.csl [], .int .i64 0]) := by kernel_rfl
@[simp] theorem ap96 : apOf Tryd.prog 96 = some (105, 66, 80) := by kernel_rfl
@[simp] theorem ld96 : ldOf Tryd.prog 96 = some (1, false) := by kernel_rfl
@[simp] theorem sl96 : slOf Tryd.prog 96 = some (105, 66, 80) := by kernel_rfl
@[simp] theorem sz96 : szOf Tryd.prog 96 = some 1 := by kernel_rfl
@[simp] theorem fld98_0 : fldOf Tryd.prog 98 0 = some (0, 1, false) := by kernel_rfl
@[simp] theorem fld98_1 : fldOf Tryd.prog 98 1 = some (1, 1, false) := by kernel_rfl
@[simp] theorem fld98_2 : fldOf Tryd.prog 98 2 = some (2, 1, false) := by kernel_rfl
@[simp] theorem fld98_3 : fldOf Tryd.prog 98 3 = some (3, 1, false) := by kernel_rfl
@[simp] theorem fld98_4 : fldOf Tryd.prog 98 4 = some (4, 1, false) := by kernel_rfl
@[simp] theorem fld98_5 : fldOf Tryd.prog 98 5 = some (5, 1, false) := by kernel_rfl
@[simp] theorem fld98_6 : fldOf Tryd.prog 98 6 = some (6, 1, false) := by kernel_rfl
@[simp] theorem fld98_7 : fldOf Tryd.prog 98 7 = some (7, 1, false) := by kernel_rfl
@[simp] theorem fld98_8 : fldOf Tryd.prog 98 8 = some (8, 1, false) := by kernel_rfl
@[simp] theorem fld98_9 : fldOf Tryd.prog 98 9 = some (9, 1, false) := by kernel_rfl
@[simp] theorem ld98 : ldOf Tryd.prog 98 = some (10, true) := by kernel_rfl
@[simp] theorem plc98 : plcOf Tryd.prog 98 = some ([(0, 1), (1, 1), (2, 1), (3, 1), (4, 1), (5, 1), (6, 1), (7, 1), (8, 1), (9, 1)], [.int .i64 0, .int .i64 0, .int .i64 0, .csl [], .csl [], .csl [], .csl [], .csl [], .csl [], .csl []]) := by kernel_rfl
@[simp] theorem sz98 : szOf Tryd.prog 98 = some 10 := by kernel_rfl
@[simp] theorem ze98 : zeOf Tryd.prog 98 = some (.agg [.int .i64 0, .int .i64 0, .int .i64 0, .csl [], .csl [], .csl [], .csl [], .csl [], .csl [], .csl []]) := by kernel_rfl
@[simp] theorem ar103 : arOf Tryd.prog 103 = some (64, 5, 1) := by kernel_rfl
@[simp] theorem fld105_0 : fldOf Tryd.prog 105 0 = some (0, 1, false) := by kernel_rfl
@[simp] theorem fld105_1 : fldOf Tryd.prog 105 1 = some (1, 1, false) := by kernel_rfl
@[simp] theorem fld105_2 : fldOf Tryd.prog 105 2 = some (2, 64, true) := by kernel_rfl
@[simp] theorem ld105 : ldOf Tryd.prog 105 = some (66, true) := by kernel_rfl
@[simp] theorem plc105 : plcOf Tryd.prog 105 = some ([(0, 1), (1, 1), (2, 64)], [.int .i64 0, .bool false, .int .u8 0, .int .u8 0, .int .u8 0, .int .u8 0, .int .u8 0, .int .u8 0, .int .u8 0, .int .u8 0, .int .u8 0, .int .u8 0, .int .u8 0, .int .u8 0, .int .u8 0, .int .u8 0, .int .u8 0, .int .u8 0, .int .u8 0, .int .u8 0, .int .u8 0, .int .u8 0, .int .u8 0, .int .u8 0, .int .u8 0, .int .u8 0, .int .u8 0, .int .u8 0, .int .u8 0, .int .u8 0, .int .u8 0, .int .u8 0, .int .u8 0, .int .u8 0, .int .u8 0, .int .u8 0, .int .u8 0, .int .u8 0, .int .u8 0, .int .u8 0, .int .u8 0, .int .u8 0, .int .u8 0, .int .u8 0, .int .u8 0, .int .u8 0, .int .u8 0, .int .u8 0, .int .u8 0, .int .u8 0, .int .u8 0, .int .u8 0, .int .u8 0, .int .u8 0, .int .u8 0, .int .u8 0, .int .u8 0, .int .u8 0, .int .u8 0, .int .u8 0, .int .u8 0, .int .u8 0, .int .u8 0, .int .u8 0, .int .u8 0, .int .u8 0]) := by kernel_rfl
@[simp] theorem sz105 : szOf Tryd.prog 105 = some 66 := by kernel_rfl
@[simp] theorem ze105 : zeOf Tryd.prog 105 = some (.agg [.int .i64 0, .bool false, .int .u8 0, .int .u8 0, .int .u8 0, .int .u8 0, .int .u8 0, .int .u8 0, .int .u8 0, .int .u8 0, .int .u8 0, .int .u8 0, .int .u8 0, .int .u8 0, .int .u8 0, .int .u8 0, .int .u8 0, .int .u8 0, .int .u8 0, .int .u8 0, .int .u8 0, .int .u8 0, .int .u8 0, .int .u8 0, .int .u8 0, .int .u8 0, .int .u8 0, .int .u8 0, .int .u8 0, .int .u8 0, .int .u8 0, .int .u8 0, .int .u8 0, .int .u8 0, .int .u8 0, .int .u8 0, .int .u8 0, .int .u8 0, .int .u8 0, .int .u8 0, .int .u8 0, .int .u8 0, .int .u8 0, .int .u8 0, .int .u8 0, .int .u8 0, .int .u8 0, .int .u8 0, .int .u8 0, .int .u8 0, .int .u8 0, .int .u8 0, .int .u8 0, .int .u8 0, .int .u8 0, .int .u8 0, .int .u8 0, .int .u8 0, .int .u8 0, .int .u8 0, .int .u8 0, .int .u8 0, .int .u8 0, .int .u8 0, .int .u8 0, .int .u8 0]) := by kernel_rfl
@[simp] theorem eq107 : eqOf Tryd.prog 107 = some [.i, .i, .i, .i] := by kernel_rfl
@[simp] theorem fld107_0 : fldOf Tryd.prog 107 0 = some (0, 1, false) := by kernel_rfl
@[simp] theorem fld107_1 : fldOf Tryd.prog 107 1 = some (1, 1, false) := by kernel_rfl
@[simp] theorem fld107_2 : fldOf Tryd.prog 107 2 = some (2, 1, false) := by kernel_rfl
@[simp] theorem fld107_3 : fldOf Tryd.prog 107 3 = some (3, 1, false) := by kernel_rfl
@[simp] theorem ld107 : ldOf Tryd.prog 107 = some (4, true) := by kernel_rfl
@[simp] theorem plc107 : plcOf Tryd.prog 107 = some ([(0, 1), (1, 1), (2, 1), (3, 1)], [.int .i64 0, .int .i64 0, .int .i64 0, .int .i64 0]) := by kernel_rfl
@[simp] theorem sz107 : szOf Tryd.prog 107 = some 4 := by kernel_rfl
@[simp] theorem ze107 : zeOf Tryd.prog 107 = some (.agg [.int .i64 0, .int .i64 0, .int .i64 0, .int .i64 0]) := by kernel_rfl
@[simp] theorem sl109 : slOf Tryd.prog 109 = some (71, 1, 8) := by kernel_rfl
@[simp] theorem con116 : Tryd.prog.concrete 116 = true := by kernel_rfl
@[simp] theorem ld116 : ldOf Tryd.prog 116 = some (1, false) := by kernel_rfl
@[simp] theorem ze116 : zeOf Tryd.prog 116 = some (.nilp) := by kernel_rfl
@[simp] theorem con118 : Tryd.prog.concrete 118 = true := by kernel_rfl
@[simp] theorem fld120_0 : fldOf Tryd.prog 120 0 = some (0, 1, false) := by kernel_rfl
@[simp] theorem fld120_1 : fldOf Tryd.prog 120 1 = some (1, 1, false) := by kernel_rfl
@[simp] theorem plc120 : plcOf Tryd.prog 120 = some ([(0, 1), (1, 1)], [.int .i64 0, .nili]) := by kernel_rfl
@[simp] theorem sl126 : slOf Tryd.prog 126 = some (86, 2, 16) := by kernel_rfl
@[simp] theorem sl128 : slOf Tryd.prog 128 = some (90, 1, 8) := by kernel_rfl
@[simp] theorem fld135_0 : fldOf Tryd.prog 135 0 = some (0, 16, true) := by kernel_rfl
@[simp] theorem fld135_1 : fldOf Tryd.prog 135 1 = some (16, 1, false) := by kernel_rfl
@[simp] theorem fld135_2 : fldOf Tryd.prog 135 2 = some (17, 1, false) := by kernel_rfl
@[simp] theorem fld135_3 : fldOf Tryd.prog 135 3 = some (18, 1, false) := by kernel_rfl
@[simp] theorem fld135_4 : fldOf Tryd.prog 135 4 = some (19, 1, false) := by kernel_rfl
@[simp] theorem fld135_5 : fldOf Tryd.prog 135 5 = some (20, 1, false) := by kernel_rfl
@[simp] theorem ld135 : ldOf Tryd.prog 135 = some (21, true) := by kernel_rfl
@[simp] theorem plc135 : plcOf Tryd.prog 135 = some ([(0, 16), (16, 1), (17, 1), (18, 1), (19, 1), (20, 1)], [.int .u32 0, .int .u32 0, .int .u32 0, .int .u32 0, .int .u32 0, .int .u32 0, .int .u32 0, .int .u32 0, .int .u32 0, .int .u32 0, .int .u32 0, .int .u32 0, .int .u32 0, .int .u32 0, .int .u32 0, .int .u32 0, .int .u32 0, .int .i64 0, .int .i64 0, .int .i64 0, .int .i64 0]) := by kernel_rfl
@[simp] theorem sz135 : szOf Tryd.prog 135 = some 21 := by kernel_rfl
@[simp] theorem ze135 : zeOf Tryd.prog 135 = some (.agg [.int .u32 0, .int .u32 0, .int .u32 0, .int .u32 0, .int .u32 0, .int .u32 0, .int .u32 0, .int .u32 0, .int .u32 0, .int .u32 0, .int .u32 0, .int .u32 0, .int .u32 0, .int .u32 0, .int .u32 0, .int .u32 0, .int .u32 0, .int .i64 0, .int .i64 0, .int .i64 0, .int .i64 0]) := by kernel_rfl
@[simp] theorem ld149 : ldOf Tryd.prog 149 = some (1, false) := by kernel_rfl
@[simp] theorem sz149 : szOf Tryd.prog 149 = some 1 := by kernel_rfl
@[simp] theorem ld156 : ldOf Tryd.prog 156 = some (3, true) := by kernel_rfl
@[simp] theorem sz156 : szOf Tryd.prog 156 = some 3 := by kernel_rfl
@[simp] theorem ze156 : zeOf Tryd.prog 156 = some (.agg [.nilp, .nilp, .int .u64 0]) := by kernel_rfl
@[simp] theorem fld169_0 : fldOf Tryd.prog 169 0 = some (0, 1, false) := by kernel_rfl
@[simp] theorem fld169_1 : fldOf Tryd.prog 169 1 = some (1, 1, false) := by kernel_rfl
@[simp] theorem plc169 : plcOf Tryd.prog 169 = some ([(0, 1), (1, 1)], [.csl [], .nili]) := by kernel_rfl
@[simp] theorem sl187 : slOf Tryd.prog 187 = some (36, 1, 16) := by kernel_rfl
@[simp] theorem ar202 : arOf Tryd.prog 202 = some (256, 58, 1) := by kernel_rfl
@[simp] theorem plc202 : plcOf Tryd.prog 202 = some ([(0, 1), (1, 1), (2, 1), (3, 1), (4, 1), (5, 1), (6, 1), (7, 1), (8, 1), (9, 1), (10, 1), (11, 1), (12, 1), (13, 1), (14, 1), (15, 1), (16, 1), (17, 1), (18, 1), (19, 1), (20, 1), (21, 1), (22, 1), (23, 1), (24, 1), (25, 1), (26, 1), (27, 1), (28, 1), (29, 1), (30, 1), (31, 1), (32, 1), (33, 1), (34, 1), (35, 1), (36, 1), (37, 1), (38, 1), (39, 1), (40, 1), (41, 1), (42, 1), (43, 1), (44, 1), (45, 1), (46, 1), (47, 1), (48, 1), (49, 1), (50, 1), (51, 1), (52, 1), (53, 1), (54, 1), (55, 1), (56, 1), (57, 1), (58, 1), (59, 1), (60, 1), (61, 1), (62, 1), (63, 1), (64, 1), (65, 1), (66, 1), (67, 1), (68, 1), (69, 1), (70, 1), (71, 1), (72, 1), (73, 1), (74, 1), (75, 1), (76, 1), (77, 1), (78, 1), (79, 1), (80, 1), (81, 1), (82, 1), (83, 1), (84, 1), (85, 1), (86, 1), (87, 1), (88, 1), (89, 1), (90, 1), (91, 1), (92, 1), (93, 1), (94, 1), (95, 1), (96, 1), (97, 1), (98, 1), (99, 1), (100, 1), (101, 1), (102, 1), (103, 1), (104, 1), (105, 1), (106, 1), (107, 1), (108, 1), (109, 1), (110, 1), (111, 1), (112, 1), (113, 1), (114, 1), (115, 1), (116, 1), (117, 1), (118, 1), (119, 1), (120, 1), (121, 1), (122, 1), (123, 1), (124, 1), (125, 1), (126, 1), (127, 1), (128, 1), (129, 1), (130, 1), (131, 1), (132, 1), (133, 1), (134, 1), (135, 1), (136, 1), (137, 1), (138, 1), (139, 1), (140, 1), (141, 1), (142, 1), (143, 1), (144, 1), (145, 1), (146, 1), (147, 1), (148, 1), (149, 1), (150, 1), (151, 1), (152, 1), (153, 1), (154, 1), (155, 1), (156, 1), (157, 1), (158, 1), (159, 1), (160, 1), (161, 1), (162, 1), (163, 1), (164, 1), (165, 1), (166, 1), (167, 1), (168, 1), (169, 1), (170, 1), (171, 1), (172, 1), (173, 1), (174, 1), (175, 1), (176, 1), (177, 1), (178, 1), (179, 1), (180, 1), (181, 1), (182, 1), (183, 1), (184, 1), (185, 1), (186, 1), (187, 1), (188, 1), (189, 1), (190, 1), (191, 1), (192, 1), (193, 1), (194, 1), (195, 1), (196, 1), (197, 1), (198, 1), (199, 1), (200, 1), (201, 1), (202, 1), (203, 1), (204, 1), (205, 1), (206, 1), (207, 1), (208, 1), (209, 1), (210, 1), (211, 1), (212, 1), (213, 1), (214, 1), (215, 1), (216, 1), (217, 1), (218, 1), (219, 1), (220, 1), (221, 1), (222, 1), (223, 1), (224, 1), (225, 1), (226, 1), (227, 1), (228, 1), (229, 1), (230, 1), (231, 1), (232, 1), (233, 1), (234, 1), (235, 1), (236, 1), (237, 1), (238, 1), (239, 1), (240, 1), (241, 1), (242, 1), (243, 1), (244, 1), (245, 1), (246, 1), (247, 1), (248, 1), (249, 1), (250, 1), (251, 1), (252, 1), (253, 1), (254, 1), (255, 1)], [.int .u32 0, .int .u32 0, .int .u32 0, .int .u32 0, .int .u32 0, .int .u32 0, .int .u32 0, .int .u32 0, .int .u32 0, .int .u32 0, .int .u32 0, .int .u32 0, .int .u32 0, .int .u32 0, .int .u32 0, .int .u32 0, .int .u32 0, .int .u32 0, .int .u32 0, .int .u32 0, .int .u32 0, .int .u32 0, .int .u32 0, .int .u32 0, .int .u32 0, .int .u32 0, .int .u32 0, .int .u32 0, .int .u32 0, .int .u32 0, .int .u32 0, .int .u32 0, .int .u32 0, .int .u32 0, .int .u32 0, .int .u32 0, .int .u32 0, .int .u32 0, .int .u32 0, .int .u32 0, .int .u32 0, .int .u32 0, .int .u32 0, .int .u32 0, .int .u32 0, .int .u32 0, .int .u32 0, .int .u32 0, .int .u32 0, .int .u32 0, .int .u32 0, .int .u32 0, .int .u32 0, .int .u32 0, .int .u32 0, .int .u32 0, .int .u32 0, .int .u32 0, .int .u32 0, .int .u32 0, .int .u32 0, .int .u32 0, .int .u32 0, .int .u32 0, .int .u32 0, .int .u32 0, .int .u32 0, .int .u32 0, .int .u32 0, .int .u32 0, .int .u32 0, .int .u32 0, .int .u32 0, .int .u32 0, .int .u32 0, .int .u32 0, .int .u32 0, .int .u32 0, .int .u32 0, .int .u32 0, .int .u32 0, .int .u32 0, .int .u32 0, .int .u32 0, .int .u32 0, .int .u32 0, .int .u32 0, .int .u32 0, .int .u32 0, .int .u32 0, .int .u32 0, .int .u32 0, .int .u32 0, .int .u32 0, .int .u32 0, .int .u32 0, .int .u32 0, .int .u32 0, .int .u32 0, .int .u32 0, .int .u32 0, .int .u32 0, .int .u32 0, .int .u32 0, .int .u32 0, .int .u32 0, .int .u32 0, .int .u32 0, .int .u32 0, .int .u32 0, .int .u32 0, .int .u32 0, .int .u32 0, .int .u32 0, .int .u32 0, .int .u32 0, .int .u32 0, .int .u32 0, .int .u32 0, .int .u32 0, .int .u32 0, .int .u32 0, .int .u32 0, .int .u32 0, .int .u32 0, .int .u32 0, .int .u32 0, .int .u32 0, .int .u32 0, .int .u32 0, .int .u32 0, .int .u32 0, .int .u32 0, .int .u32 0, .int .u32 0, .int .u32 0, .int .u32 0, .int .u32 0, .int .u32 0, .int .u32 0, .int .u32 0, .int .u32 0, .int .u32 0, .int .u32 0, .int .u32 0, .int .u32 0, .int .u32 0, .int .u32 0, .int .u32 0, .int .u32 0, .int .u32 0, .int .u32 0, .int .u32 0, .int .u32 0, .int .u32 0, .int .u32 0, .int .u32 0, .int .u32 0, .int .u32 0, .int .u32 0, .int .u32 0, .int .u32 0, .int .u32 0, .int .u32 0, .int .u32 0, .int .u32 0, .int .u32 0, .int .u32 0, .int .u32 0, .int .u32 0, .int .u32 0, .int .u32 0, .int .u32 0, .int .u32 0, .int .u32 0, .int .u32 0, .int .u32 0, .int .u32 0, .int .u32 0, .int .u32 0, .int .u32 0, .int .u32 0, .int .u32 0, .int .u32 0, .int .u32 0, .int .u32 0, .int .u32 0, .int .u32 0, .int .u32 0, .int .u32 0, .int .u32 0, .int .u32 0, .int .u32 0, .int .u32 0, .int .u32 0, .int .u32 0, .int .u32 0, .int .u32 0, .int .u32 0, .int .u32 0, .int .u32 0, .int .u32 0, .int .u32 0, .int .u32 0, .int .u32 0, .int .u32 0, .int .u32 0, .int .u32 0, .int .u32 0, .int .u32 0, .int .u32 0, .int .u32 0, .int .u32 0, .int .u32 0, .int .u32 0, .int .u32 0, .int .u32 0, .int .u32 0, .int .u32 0, .int .u32 0, .int .u32 0, .int .u32 0, .int .u32 0, .int .u32 0, .int .u32 0, .int .u32 0, .int .u32 0, .int .u32 0, .int .u32 0, .int .u32 0, .int .u32 0, .int .u32 0, .int .u32 0, .int .u32 0, .int .u32 0, .int .u32 0, .int .u32 0, .int .u32 0, .int .u32 0, .int .u32 0, .int .u32 0, .int .u32 0, .int .u32 0, .int .u32 0, .int .u32 0, .int .u32 0, .int .u32 0, .int .u32 0, .int .u32 0, .int .u32 0, .int .u32 0, .int .u32 0, .int .u32 0, .int .u32 0, .int .u32 0, .int .u32 0]) := by kernel_rfl
@[simp] theorem con204 : Tryd.prog.concrete 204 = true := by kernel_rfl
@[simp] theorem plc230 : plcOf Tryd.prog 230 = some ([(0, 1)], [.str []]) := by kernel_rfl
@[simp] theorem con241 : Tryd.prog.concrete 241 = true := by kernel_rfl
end Go.Proofs.YtndoembhbfiokaaDoor.Am
