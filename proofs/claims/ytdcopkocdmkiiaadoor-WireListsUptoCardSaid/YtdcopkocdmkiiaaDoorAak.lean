/- The logic and the contracts that the law stands on, part 11 of 20. -/
import Derived.Test.YtdcopkocdmkiiaaDoorAaj
import Derived.Test.YtdcopkocdmkiiaaDoorProg
set_option linter.unusedVariables false
namespace Go.Proofs.YtdcopkocdmkiiaaDoor.Am
open Go.RowKit Go.Proofs
@[simp] theorem ld3 : ldOf Tryd.prog 3 = some (1, false) := by kernel_rfl
@[simp] theorem sz3 : szOf Tryd.prog 3 = some 1 := by kernel_rfl
@[simp] theorem ze3 : zeOf Tryd.prog 3 = some (.int .i64 0) := by kernel_rfl
@[simp] theorem ld4 : ldOf Tryd.prog 4 = some (1, false) := by kernel_rfl
@[simp] theorem sz4 : szOf Tryd.prog 4 = some 1 := by kernel_rfl
@[simp] theorem ze4 : zeOf Tryd.prog 4 = some (.bool false) := by kernel_rfl
@[simp] theorem ld5 : ldOf Tryd.prog 5 = some (1, false) := by kernel_rfl
@[simp] theorem sz5 : szOf Tryd.prog 5 = some 1 := by kernel_rfl
@[simp] theorem ze5 : zeOf Tryd.prog 5 = some (.int .u8 0) := by kernel_rfl
@[simp] theorem con9 : Tryd.prog.concrete 9 = true := by kernel_rfl
@[simp] theorem ld9 : ldOf Tryd.prog 9 = some (1, false) := by kernel_rfl
@[simp] theorem sz9 : szOf Tryd.prog 9 = some 1 := by kernel_rfl
@[simp] theorem ze9 : zeOf Tryd.prog 9 = some (.str []) := by kernel_rfl
@[simp] theorem ap22 : apOf Tryd.prog 22 = some (160, 2, 32) := by kernel_rfl
@[simp] theorem ld22 : ldOf Tryd.prog 22 = some (1, false) := by kernel_rfl
@[simp] theorem sl22 : slOf Tryd.prog 22 = some (160, 2, 32) := by kernel_rfl
@[simp] theorem ap23 : apOf Tryd.prog 23 = some (5, 1, 1) := by kernel_rfl
@[simp] theorem ld23 : ldOf Tryd.prog 23 = some (1, false) := by kernel_rfl
@[simp] theorem mk23 : mkOf Tryd.prog 23 = some (5, 1, 1, .int .u8 0) := by kernel_rfl
@[simp] theorem sl23 : slOf Tryd.prog 23 = some (5, 1, 1) := by kernel_rfl
@[simp] theorem sz23 : szOf Tryd.prog 23 = some 1 := by kernel_rfl
@[simp] theorem ze23 : zeOf Tryd.prog 23 = some (.csl []) := by kernel_rfl
@[simp] theorem ap24 : apOf Tryd.prog 24 = some (3, 1, 8) := by kernel_rfl
@[simp] theorem ld24 : ldOf Tryd.prog 24 = some (1, false) := by kernel_rfl
@[simp] theorem mk24 : mkOf Tryd.prog 24 = some (3, 1, 8, .int .i64 0) := by kernel_rfl
@[simp] theorem sl24 : slOf Tryd.prog 24 = some (3, 1, 8) := by kernel_rfl
@[simp] theorem sz24 : szOf Tryd.prog 24 = some 1 := by kernel_rfl
@[simp] theorem fld26_0 : fldOf Tryd.prog 26 0 = some (0, 1, false) := by kernel_rfl
@[simp] theorem fld26_1 : fldOf Tryd.prog 26 1 = some (1, 1, false) := by kernel_rfl
@[simp] theorem fld26_2 : fldOf Tryd.prog 26 2 = some (2, 1, false) := by kernel_rfl
@[simp] theorem fld26_3 : fldOf Tryd.prog 26 3 = some (3, 1, false) := by kernel_rfl
@[simp] theorem fld29_0 : fldOf Tryd.prog 29 0 = some (0, 1, false) := by kernel_rfl
@[simp] theorem fld29_1 : fldOf Tryd.prog 29 1 = some (1, 1, false) := by kernel_rfl
@[simp] theorem ld29 : ldOf Tryd.prog 29 = some (2, true) := by kernel_rfl
@[simp] theorem plc29 : plcOf Tryd.prog 29 = some ([(0, 1), (1, 1)], [.int .i64 0, .int .i64 0]) := by kernel_rfl
@[simp] theorem sz29 : szOf Tryd.prog 29 = some 2 := by kernel_rfl
@[simp] theorem ze29 : zeOf Tryd.prog 29 = some (.agg [.int .i64 0, .int .i64 0]) := by kernel_rfl
@[simp] theorem ld33 : ldOf Tryd.prog 33 = some (1, false) := by kernel_rfl
@[simp] theorem sz33 : szOf Tryd.prog 33 = some 1 := by kernel_rfl
@[simp] theorem ap36 : apOf Tryd.prog 36 = some (54, 2, 32) := by kernel_rfl
@[simp] theorem sl36 : slOf Tryd.prog 36 = some (54, 2, 32) := by kernel_rfl
@[simp] theorem ap44 : apOf Tryd.prog 44 = some (23, 1, 24) := by kernel_rfl
@[simp] theorem sl44 : slOf Tryd.prog 44 = some (23, 1, 24) := by kernel_rfl
@[simp] theorem fld54_0 : fldOf Tryd.prog 54 0 = some (0, 1, false) := by kernel_rfl
@[simp] theorem fld54_1 : fldOf Tryd.prog 54 1 = some (1, 1, false) := by kernel_rfl
@[simp] theorem ld54 : ldOf Tryd.prog 54 = some (2, true) := by kernel_rfl
@[simp] theorem plc54 : plcOf Tryd.prog 54 = some ([(0, 1), (1, 1)], [.int .i64 0, .csl []]) := by kernel_rfl
@[simp] theorem sz54 : szOf Tryd.prog 54 = some 2 := by kernel_rfl
@[simp] theorem ze54 : zeOf Tryd.prog 54 = some (.agg [.int .i64 0, .csl []]) := by kernel_rfl
@[simp] theorem ap56 : apOf Tryd.prog 56 = some (86, 7, 120) := by kernel_rfl
@[simp] theorem ld56 : ldOf Tryd.prog 56 = some (1, false) := by kernel_rfl
@[simp] theorem sl56 : slOf Tryd.prog 56 = some (86, 7, 120) := by kernel_rfl
@[simp] theorem sz56 : szOf Tryd.prog 56 = some 1 := by kernel_rfl
@[simp] theorem ap57 : apOf Tryd.prog 57 = some (134, 3, 24) := by kernel_rfl
@[simp] theorem ld57 : ldOf Tryd.prog 57 = some (1, false) := by kernel_rfl
@[simp] theorem sl57 : slOf Tryd.prog 57 = some (134, 3, 24) := by kernel_rfl
@[simp] theorem sz57 : szOf Tryd.prog 57 = some 1 := by kernel_rfl
@[simp] theorem ap58 : apOf Tryd.prog 58 = some (77, 4, 32) := by kernel_rfl
@[simp] theorem ld58 : ldOf Tryd.prog 58 = some (1, false) := by kernel_rfl
@[simp] theorem sl58 : slOf Tryd.prog 58 = some (77, 4, 32) := by kernel_rfl
@[simp] theorem sz58 : szOf Tryd.prog 58 = some 1 := by kernel_rfl
@[simp] theorem fld60_0 : fldOf Tryd.prog 60 0 = some (0, 1, false) := by kernel_rfl
@[simp] theorem fld60_1 : fldOf Tryd.prog 60 1 = some (1, 1, false) := by kernel_rfl
@[simp] theorem fld60_2 : fldOf Tryd.prog 60 2 = some (2, 1, false) := by kernel_rfl
@[simp] theorem fld60_3 : fldOf Tryd.prog 60 3 = some (3, 1, false) := by kernel_rfl
@[simp] theorem fld60_4 : fldOf Tryd.prog 60 4 = some (4, 1, false) := by kernel_rfl
@[simp] theorem fld60_5 : fldOf Tryd.prog 60 5 = some (5, 1, false) := by kernel_rfl
@[simp] theorem ld60 : ldOf Tryd.prog 60 = some (6, true) := by kernel_rfl
@[simp] theorem plc60 : plcOf Tryd.prog 60 = some ([(0, 1), (1, 1), (2, 1), (3, 1), (4, 1), (5, 1)], [.int .i64 0, .csl [], .csl [], .csl [], .csl [], .int .i64 0]) := by kernel_rfl
@[simp] theorem sz60 : szOf Tryd.prog 60 = some 6 := by kernel_rfl
@[simp] theorem ze60 : zeOf Tryd.prog 60 = some (.agg [.int .i64 0, .csl [], .csl [], .csl [], .csl [], .int .i64 0]) := by kernel_rfl
@[simp] theorem ap61 : apOf Tryd.prog 61 = some (4, 1, 1) := by kernel_rfl
@[simp] theorem ld61 : ldOf Tryd.prog 61 = some (1, false) := by kernel_rfl
@[simp] theorem mk61 : mkOf Tryd.prog 61 = some (4, 1, 1, .bool false) := by kernel_rfl
@[simp] theorem sl61 : slOf Tryd.prog 61 = some (4, 1, 1) := by kernel_rfl
@[simp] theorem ap62 : apOf Tryd.prog 62 = some (73, 1, 24) := by kernel_rfl
@[simp] theorem ld62 : ldOf Tryd.prog 62 = some (1, false) := by kernel_rfl
@[simp] theorem mk62 : mkOf Tryd.prog 62 = some (73, 1, 24, .csl []) := by kernel_rfl
@[simp] theorem sl62 : slOf Tryd.prog 62 = some (73, 1, 24) := by kernel_rfl
@[simp] theorem fld64_0 : fldOf Tryd.prog 64 0 = some (0, 6, true) := by kernel_rfl
@[simp] theorem fld64_1 : fldOf Tryd.prog 64 1 = some (6, 6, true) := by kernel_rfl
@[simp] theorem fld64_2 : fldOf Tryd.prog 64 2 = some (12, 1, false) := by kernel_rfl
@[simp] theorem fld64_3 : fldOf Tryd.prog 64 3 = some (13, 1, false) := by kernel_rfl
@[simp] theorem fld64_4 : fldOf Tryd.prog 64 4 = some (14, 1, false) := by kernel_rfl
@[simp] theorem ap73 : apOf Tryd.prog 73 = some (80, 2, 24) := by kernel_rfl
@[simp] theorem ld73 : ldOf Tryd.prog 73 = some (1, false) := by kernel_rfl
@[simp] theorem sl73 : slOf Tryd.prog 73 = some (80, 2, 24) := by kernel_rfl
@[simp] theorem sz73 : szOf Tryd.prog 73 = some 1 := by kernel_rfl
@[simp] theorem ze73 : zeOf Tryd.prog 73 = some (.csl []) := by kernel_rfl
@[simp] theorem eq77 : eqOf Tryd.prog 77 = some [.i, .i, .i, .i] := by kernel_rfl
@[simp] theorem fld77_0 : fldOf Tryd.prog 77 0 = some (0, 1, false) := by kernel_rfl
@[simp] theorem fld77_1 : fldOf Tryd.prog 77 1 = some (1, 1, false) := by kernel_rfl
@[simp] theorem fld77_2 : fldOf Tryd.prog 77 2 = some (2, 1, false) := by kernel_rfl
@[simp] theorem fld77_3 : fldOf Tryd.prog 77 3 = some (3, 1, false) := by kernel_rfl
@[simp] theorem ld77 : ldOf Tryd.prog 77 = some (4, true) := by kernel_rfl
@[simp] theorem plc77 : plcOf Tryd.prog 77 = some ([(0, 1), (1, 1), (2, 1), (3, 1)], [.int .i64 0, .int .i64 0, .int .i64 0, .int .i64 0]) := by kernel_rfl
@[simp] theorem sz77 : szOf Tryd.prog 77 = some 4 := by kernel_rfl
@[simp] theorem ze77 : zeOf Tryd.prog 77 = some (.agg [.int .i64 0, .int .i64 0, .int .i64 0, .int .i64 0]) := by kernel_rfl
@[simp] theorem eq80 : eqOf Tryd.prog 80 = some [.i, .s] := by kernel_rfl
@[simp] theorem fld80_0 : fldOf Tryd.prog 80 0 = some (0, 1, false) := by kernel_rfl
@[simp] theorem fld80_1 : fldOf Tryd.prog 80 1 = some (1, 1, false) := by kernel_rfl
@[simp] theorem ld80 : ldOf Tryd.prog 80 = some (2, true) := by kernel_rfl
@[simp] theorem plc80 : plcOf Tryd.prog 80 = some ([(0, 1), (1, 1)], [.int .i64 0, .str []]) := by kernel_rfl
@[simp] theorem sz80 : szOf Tryd.prog 80 = some 2 := by kernel_rfl
@[simp] theorem ze80 : zeOf Tryd.prog 80 = some (.agg [.int .i64 0, .str []]) := by kernel_rfl
@[simp] theorem ap82 : apOf Tryd.prog 82 = some (107, 2, 24) := by kernel_rfl
@[simp] theorem ld82 : ldOf Tryd.prog 82 = some (1, false) := by kernel_rfl
@[simp] theorem sl82 : slOf Tryd.prog 82 = some (107, 2, 24) := by kernel_rfl
@[simp] theorem sz82 : szOf Tryd.prog 82 = some 1 := by kernel_rfl
@[simp] theorem ap83 : apOf Tryd.prog 83 = some (126, 3, 24) := by kernel_rfl
@[simp] theorem ld83 : ldOf Tryd.prog 83 = some (1, false) := by kernel_rfl
@[simp] theorem sl83 : slOf Tryd.prog 83 = some (126, 3, 24) := by kernel_rfl
@[simp] theorem sz83 : szOf Tryd.prog 83 = some 1 := by kernel_rfl
@[simp] theorem ap84 : apOf Tryd.prog 84 = some (203, 4, 32) := by kernel_rfl
@[simp] theorem ld84 : ldOf Tryd.prog 84 = some (1, false) := by kernel_rfl
@[simp] theorem sl84 : slOf Tryd.prog 84 = some (203, 4, 32) := by kernel_rfl
@[simp] theorem sz84 : szOf Tryd.prog 84 = some 1 := by kernel_rfl
@[simp] theorem fld86_0 : fldOf Tryd.prog 86 0 = some (0, 1, false) := by kernel_rfl
@[simp] theorem fld86_1 : fldOf Tryd.prog 86 1 = some (1, 1, false) := by kernel_rfl
@[simp] theorem fld86_2 : fldOf Tryd.prog 86 2 = some (2, 1, false) := by kernel_rfl
@[simp] theorem fld86_3 : fldOf Tryd.prog 86 3 = some (3, 1, false) := by kernel_rfl
@[simp] theorem fld86_4 : fldOf Tryd.prog 86 4 = some (4, 1, false) := by kernel_rfl
@[simp] theorem fld86_5 : fldOf Tryd.prog 86 5 = some (5, 1, false) := by kernel_rfl
@[simp] theorem fld86_6 : fldOf Tryd.prog 86 6 = some (6, 1, false) := by kernel_rfl
@[simp] theorem ld86 : ldOf Tryd.prog 86 = some (7, true) := by kernel_rfl
@[simp] theorem plc86 : plcOf Tryd.prog 86 = some ([(0, 1), (1, 1), (2, 1), (3, 1), (4, 1), (5, 1), (6, 1)], [.int .i64 0, .bool false, .csl [], .csl [], .csl [], .int .i64 0, .csl []]) := by kernel_rfl
@[simp] theorem sz86 : szOf Tryd.prog 86 = some 7 := by kernel_rfl
@[simp] theorem ze86 : zeOf Tryd.prog 86 = some (.agg [.int .i64 0, .bool false, .csl [], .csl [], .csl [], .int .i64 0, .csl []]) := by kernel_rfl
@[simp] theorem ap87 : apOf Tryd.prog 87 = some (100, 21, 104) := by kernel_rfl
@[simp] theorem ld87 : ldOf Tryd.prog 87 = some (1, false) := by kernel_rfl
@[simp] theorem sl87 : slOf Tryd.prog 87 = some (100, 21, 104) := by kernel_rfl
@[simp] theorem sz87 : szOf Tryd.prog 87 = some 1 := by kernel_rfl
@[simp] theorem ld88 : ldOf Tryd.prog 88 = some (1, false) := by kernel_rfl
@[simp] theorem sl88 : slOf Tryd.prog 88 = some (286, 2, 16) := by kernel_rfl
@[simp] theorem ld89 : ldOf Tryd.prog 89 = some (1, false) := by kernel_rfl
@[simp] theorem mk89 : mkOf Tryd.prog 89 = some (239, 2, 32, .agg [.csl [], .int .i64 0]) := by kernel_rfl
@[simp] theorem sl89 : slOf Tryd.prog 89 = some (239, 2, 32) := by kernel_rfl
@[simp] theorem ap90 : apOf Tryd.prog 90 = some (116, 66, 80) := by kernel_rfl
@[simp] theorem ld90 : ldOf Tryd.prog 90 = some (1, false) := by kernel_rfl
@[simp] theorem sl90 : slOf Tryd.prog 90 = some (116, 66, 80) := by kernel_rfl
@[simp] theorem sz90 : szOf Tryd.prog 90 = some 1 := by kernel_rfl
@[simp] theorem fld92_0 : fldOf Tryd.prog 92 0 = some (0, 1, false) := by kernel_rfl
@[simp] theorem fld92_1 : fldOf Tryd.prog 92 1 = some (1, 1, false) := by kernel_rfl
@[simp] theorem fld92_2 : fldOf Tryd.prog 92 2 = some (2, 1, false) := by kernel_rfl
@[simp] theorem fld92_3 : fldOf Tryd.prog 92 3 = some (3, 1, false) := by kernel_rfl
@[simp] theorem fld92_4 : fldOf Tryd.prog 92 4 = some (4, 1, false) := by kernel_rfl
@[simp] theorem fld92_5 : fldOf Tryd.prog 92 5 = some (5, 1, false) := by kernel_rfl
@[simp] theorem fld92_6 : fldOf Tryd.prog 92 6 = some (6, 1, false) := by kernel_rfl
@[simp] theorem fld92_7 : fldOf Tryd.prog 92 7 = some (7, 1, false) := by kernel_rfl
@[simp] theorem fld92_8 : fldOf Tryd.prog 92 8 = some (8, 1, false) := by kernel_rfl
@[simp] theorem fld92_9 : fldOf Tryd.prog 92 9 = some (9, 1, false) := by kernel_rfl
@[simp] theorem ld92 : ldOf Tryd.prog 92 = some (10, true) := by kernel_rfl
@[simp] theorem plc92 : plcOf Tryd.prog 92 = some ([(0, 1), (1, 1), (2, 1), (3, 1), (4, 1), (5, 1), (6, 1), (7, 1), (8, 1), (9, 1)], [.int .i64 0, .int .i64 0, .int .i64 0, .csl [], .csl [], .csl [], .csl [], .csl [], .csl [], .csl []]) := by kernel_rfl
@[simp] theorem sz92 : szOf Tryd.prog 92 = some 10 := by kernel_rfl
@[simp] theorem ze92 : zeOf Tryd.prog 92 = some (.agg [.int .i64 0, .int .i64 0, .int .i64 0, .csl [], .csl [], .csl [], .csl [], .csl [], .csl [], .csl []]) := by kernel_rfl
@[simp] theorem ld97 : ldOf Tryd.prog 97 = some (1, false) := by kernel_rfl
@[simp] theorem sz97 : szOf Tryd.prog 97 = some 1 := by kernel_rfl
@[simp] theorem ar98 : arOf Tryd.prog 98 = some (16, 97, 1) := by kernel_rfl
@[simp] theorem eq100 : eqOf Tryd.prog 100 = some [.i, .i, .i, .i, .i, .i, .i, .i, .i, .i, .i, .i, .i, .i, .i, .i, .i, .i, .i, .i, .i] := by kernel_rfl
@[simp] theorem fld100_0 : fldOf Tryd.prog 100 0 = some (0, 16, true) := by kernel_rfl
@[simp] theorem fld100_1 : fldOf Tryd.prog 100 1 = some (16, 1, false) := by kernel_rfl
@[simp] theorem fld100_2 : fldOf Tryd.prog 100 2 = some (17, 1, false) := by kernel_rfl
@[simp] theorem fld100_3 : fldOf Tryd.prog 100 3 = some (18, 1, false) := by kernel_rfl
@[simp] theorem fld100_4 : fldOf Tryd.prog 100 4 = some (19, 1, false) := by kernel_rfl
@[simp] theorem fld100_5 : fldOf Tryd.prog 100 5 = some (20, 1, false) := by kernel_rfl
@[simp] theorem ld100 : ldOf Tryd.prog 100 = some (21, true) := by kernel_rfl
@[simp] theorem plc100 : plcOf Tryd.prog 100 = some ([(0, 16), (16, 1), (17, 1), (18, 1), (19, 1), (20, 1)], [.int .u32 0, .int .u32 0, .int .u32 0, .int .u32 0, .int .u32 0, .int .u32 0, .int .u32 0, .int .u32 0, .int .u32 0, .int .u32 0, .int .u32 0, .int .u32 0, .int .u32 0, .int .u32 0, .int .u32 0, .int .u32 0, .int .u32 0, .int .i64 0, .int .i64 0, .int .i64 0, .int .i64 0]) := by kernel_rfl
@[simp] theorem sz100 : szOf Tryd.prog 100 = some 21 := by kernel_rfl
@[simp] theorem ze100 : zeOf Tryd.prog 100 = some (.agg [.int .u32 0, .int .u32 0, .int .u32 0, .int .u32 0, .int .u32 0, .int .u32 0, .int .u32 0, .int .u32 0, .int .u32 0, .int .u32 0, .int .u32 0, .int .u32 0, .int .u32 0, .int .u32 0, .int .u32 0, .int .u32 0, .int .u32 0, .int .i64 0, .int .i64 0, .int .i64 0, .int .i64 0]) := by kernel_rfl
@[simp] theorem fld102_0 : fldOf Tryd.prog 102 0 = some (0, 1, false) := by kernel_rfl
@[simp] theorem fld102_1 : fldOf Tryd.prog 102 1 = some (1, 21, true) := by kernel_rfl
@[simp] theorem fld102_2 : fldOf Tryd.prog 102 2 = some (22, 1, false) := by kernel_rfl
@[simp] theorem fld102_3 : fldOf Tryd.prog 102 3 = some (23, 1, false) := by kernel_rfl
@[simp] theorem eq107 : eqOf Tryd.prog 107 = some [.i, .s] := by kernel_rfl
@[simp] theorem fld107_0 : fldOf Tryd.prog 107 0 = some (0, 1, false) := by kernel_rfl
@[simp] theorem fld107_1 : fldOf Tryd.prog 107 1 = some (1, 1, false) := by kernel_rfl
@[simp] theorem ld107 : ldOf Tryd.prog 107 = some (2, true) := by kernel_rfl
@[simp] theorem plc107 : plcOf Tryd.prog 107 = some ([(0, 1), (1, 1)], [.int .i64 0, .str []]) := by kernel_rfl
@[simp] theorem sz107 : szOf Tryd.prog 107 = some 2 := by kernel_rfl
@[simp] theorem ze107 : zeOf Tryd.prog 107 = some (.agg [.int .i64 0, .str []]) := by kernel_rfl
@[simp] theorem eq109 : eqOf Tryd.prog 109 = some [.i, .i, .i] := by kernel_rfl
@[simp] theorem fld109_0 : fldOf Tryd.prog 109 0 = some (0, 1, false) := by kernel_rfl
@[simp] theorem fld109_1 : fldOf Tryd.prog 109 1 = some (1, 1, false) := by kernel_rfl
@[simp] theorem fld109_2 : fldOf Tryd.prog 109 2 = some (2, 1, false) := by kernel_rfl
@[simp] theorem ld109 : ldOf Tryd.prog 109 = some (3, true) := by kernel_rfl
@[simp] theorem plc109 : plcOf Tryd.prog 109 = some ([(0, 1), (1, 1), (2, 1)], [.int .i64 0, .int .i64 0, .int .i64 0]) := by kernel_rfl
@[simp] theorem sz109 : szOf Tryd.prog 109 = some 3 := by kernel_rfl
@[simp] theorem ze109 : zeOf Tryd.prog 109 = some (.agg [.int .i64 0, .int .i64 0, .int .i64 0]) := by kernel_rfl
@[simp] theorem ar114 : arOf Tryd.prog 114 = some (64, 5, 1) := by kernel_rfl
@[simp] theorem eq114 : eqOf Tryd.prog 114 = some [.i, .i, .i, .i, .i, .i, .i, .i, .i, .i, .i, .i, .i, .i, .i, .i, .i, .i, .i, .i, .i, .i, .i, .i, .i, .i, .i, .i, .i, .i, .i, .i, .i, .i, .i, .i, .i, .i, .i, .i, .i, .i, .i, .i, .i, .i, .i, .i, .i, .i, .i, .i, .i, .i, .i, .i, .i, .i, .i, .i, .i, .i, .i, .i] := by kernel_rfl
@[simp] theorem ld114 : ldOf Tryd.prog 114 = some (64, true) := by kernel_rfl
@[simp] theorem eq116 : eqOf Tryd.prog 116 = some [.i, .b, .i, .i, .i, .i, .i, .i, .i, .i, .i, .i, .i, .i, .i, .i, .i, .i, .i, .i, .i, .i, .i, .i, .i, .i, .i, .i, .i, .i, .i, .i, .i, .i, .i, .i, .i, .i, .i, .i, .i, .i, .i, .i, .i, .i, .i, .i, .i, .i, .i, .i, .i, .i, .i, .i, .i, .i, .i, .i, .i, .i, .i, .i, .i, .i] := by kernel_rfl
@[simp] theorem fld116_0 : fldOf Tryd.prog 116 0 = some (0, 1, false) := by kernel_rfl
@[simp] theorem fld116_1 : fldOf Tryd.prog 116 1 = some (1, 1, false) := by kernel_rfl
@[simp] theorem fld116_2 : fldOf Tryd.prog 116 2 = some (2, 64, true) := by kernel_rfl
@[simp] theorem ld116 : ldOf Tryd.prog 116 = some (66, true) := by kernel_rfl
@[simp] theorem plc116 : plcOf Tryd.prog 116 = some ([(0, 1), (1, 1), (2, 64)], [.int .i64 0, .bool false, .int .u8 0, .int .u8 0, .int .u8 0, .int .u8 0, .int .u8 0, .int .u8 0, .int .u8 0, .int .u8 0, .int .u8 0, .int .u8 0, .int .u8 0, .int .u8 0, .int .u8 0, .int .u8 0, .int .u8 0, .int .u8 0, .int .u8 0, .int .u8 0, .int .u8 0, .int .u8 0, .int .u8 0, .int .u8 0, .int .u8 0, .int .u8 0, .int .u8 0, .int .u8 0, .int .u8 0, .int .u8 0, .int .u8 0, .int .u8 0, .int .u8 0, .int .u8 0, .int .u8 0, .int .u8 0, .int .u8 0, .int .u8 0, .int .u8 0, .int .u8 0, .int .u8 0, .int .u8 0, .int .u8 0, .int .u8 0, .int .u8 0, .int .u8 0, .int .u8 0, .int .u8 0, .int .u8 0, .int .u8 0, .int .u8 0, .int .u8 0, .int .u8 0, .int .u8 0, .int .u8 0, .int .u8 0, .int .u8 0, .int .u8 0, .int .u8 0, .int .u8 0, .int .u8 0, .int .u8 0, .int .u8 0, .int .u8 0, .int .u8 0, .int .u8 0]) := by kernel_rfl
@[simp] theorem sz116 : szOf Tryd.prog 116 = some 66 := by kernel_rfl
@[simp] theorem ze116 : zeOf Tryd.prog 116 = some (.agg [.int .i64 0, .bool false, .int .u8 0, .int .u8 0, .int .u8 0, .int .u8 0, .int .u8 0, .int .u8 0, .int .u8 0, .int .u8 0, .int .u8 0, .int .u8 0, .int .u8 0, .int .u8 0, .int .u8 0, .int .u8 0, .int .u8 0, .int .u8 0, .int .u8 0, .int .u8 0, .int .u8 0, .int .u8 0, .int .u8 0, .int .u8 0, .int .u8 0, .int .u8 0, .int .u8 0, .int .u8 0, .int .u8 0, .int .u8 0, .int .u8 0, .int .u8 0, .int .u8 0, .int .u8 0, .int .u8 0, .int .u8 0, .int .u8 0, .int .u8 0, .int .u8 0, .int .u8 0, .int .u8 0, .int .u8 0, .int .u8 0, .int .u8 0, .int .u8 0, .int .u8 0, .int .u8 0, .int .u8 0, .int .u8 0, .int .u8 0, .int .u8 0, .int .u8 0, .int .u8 0, .int .u8 0, .int .u8 0, .int .u8 0, .int .u8 0, .int .u8 0, .int .u8 0, .int .u8 0, .int .u8 0, .int .u8 0, .int .u8 0, .int .u8 0, .int .u8 0, .int .u8 0]) := by kernel_rfl
@[simp] theorem fld119_0 : fldOf Tryd.prog 119 0 = some (0, 7, true) := by kernel_rfl
@[simp] theorem fld119_1 : fldOf Tryd.prog 119 1 = some (7, 7, true) := by kernel_rfl
@[simp] theorem fld119_2 : fldOf Tryd.prog 119 2 = some (14, 1, false) := by kernel_rfl
@[simp] theorem fld119_3 : fldOf Tryd.prog 119 3 = some (15, 1, false) := by kernel_rfl
@[simp] theorem fld119_4 : fldOf Tryd.prog 119 4 = some (16, 1, false) := by kernel_rfl
@[simp] theorem eq126 : eqOf Tryd.prog 126 = some [.i, .i, .b] := by kernel_rfl
@[simp] theorem fld126_0 : fldOf Tryd.prog 126 0 = some (0, 1, false) := by kernel_rfl
@[simp] theorem fld126_1 : fldOf Tryd.prog 126 1 = some (1, 1, false) := by kernel_rfl
@[simp] theorem fld126_2 : fldOf Tryd.prog 126 2 = some (2, 1, false) := by kernel_rfl
@[simp] theorem ld126 : ldOf Tryd.prog 126 = some (3, true) := by kernel_rfl
@[simp] theorem plc126 : plcOf Tryd.prog 126 = some ([(0, 1), (1, 1), (2, 1)], [.int .i64 0, .int .i64 0, .bool false]) := by kernel_rfl
@[simp] theorem sz126 : szOf Tryd.prog 126 = some 3 := by kernel_rfl
@[simp] theorem ze126 : zeOf Tryd.prog 126 = some (.agg [.int .i64 0, .int .i64 0, .bool false]) := by kernel_rfl
@[simp] theorem ld128 : ldOf Tryd.prog 128 = some (1, false) := by kernel_rfl
@[simp] theorem ze128 : zeOf Tryd.prog 128 = some (.nilf) := by kernel_rfl
@[simp] theorem eq134 : eqOf Tryd.prog 134 = some [.i, .i, .i] := by kernel_rfl
@[simp] theorem fld134_0 : fldOf Tryd.prog 134 0 = some (0, 1, false) := by kernel_rfl
@[simp] theorem fld134_1 : fldOf Tryd.prog 134 1 = some (1, 1, false) := by kernel_rfl
@[simp] theorem fld134_2 : fldOf Tryd.prog 134 2 = some (2, 1, false) := by kernel_rfl
@[simp] theorem ld134 : ldOf Tryd.prog 134 = some (3, true) := by kernel_rfl
@[simp] theorem plc134 : plcOf Tryd.prog 134 = some ([(0, 1), (1, 1), (2, 1)], [.int .i64 0, .int .i64 0, .int .i64 0]) := by kernel_rfl
@[simp] theorem sz134 : szOf Tryd.prog 134 = some 3 := by kernel_rfl
@[simp] theorem ze134 : zeOf Tryd.prog 134 = some (.agg [.int .i64 0, .int .i64 0, .int .i64 0]) := by kernel_rfl
@[simp] theorem sl137 : slOf Tryd.prog 137 = some (60, 6, 112) := by kernel_rfl
@[simp] theorem fld138_0 : fldOf Tryd.prog 138 0 = some (0, 1, false) := by kernel_rfl
@[simp] theorem fld138_1 : fldOf Tryd.prog 138 1 = some (1, 1, false) := by kernel_rfl
@[simp] theorem ld138 : ldOf Tryd.prog 138 = some (2, true) := by kernel_rfl
@[simp] theorem plc138 : plcOf Tryd.prog 138 = some ([(0, 1), (1, 1)], [.int .i64 0, .int .i64 0]) := by kernel_rfl
@[simp] theorem sz138 : szOf Tryd.prog 138 = some 2 := by kernel_rfl
@[simp] theorem ze138 : zeOf Tryd.prog 138 = some (.agg [.int .i64 0, .int .i64 0]) := by kernel_rfl
@[simp] theorem fld141_0 : fldOf Tryd.prog 141 0 = some (0, 1, false) := by kernel_rfl
@[simp] theorem fld141_1 : fldOf Tryd.prog 141 1 = some (1, 1, false) := by kernel_rfl
@[simp] theorem ld141 : ldOf Tryd.prog 141 = some (2, true) := by kernel_rfl
@[simp] theorem plc141 : plcOf Tryd.prog 141 = some ([(0, 1), (1, 1)], [.int .i64 0, .int .i64 0]) := by kernel_rfl
@[simp] theorem sz141 : szOf Tryd.prog 141 = some 2 := by kernel_rfl
@[simp] theorem ze141 : zeOf Tryd.prog 141 = some (.agg [.int .i64 0, .int .i64 0]) := by kernel_rfl
@[simp] theorem ld145 : ldOf Tryd.prog 145 = some (1, false) := by kernel_rfl
@[simp] theorem ze145 : zeOf Tryd.prog 145 = some (.nilf) := by kernel_rfl
@[simp] theorem fld160_0 : fldOf Tryd.prog 160 0 = some (0, 1, false) := by kernel_rfl
@[simp] theorem fld160_1 : fldOf Tryd.prog 160 1 = some (1, 1, false) := by kernel_rfl
@[simp] theorem plc160 : plcOf Tryd.prog 160 = some ([(0, 1), (1, 1)], [.int .i64 0, .csl []]) := by kernel_rfl
@[simp] theorem ze160 : zeOf Tryd.prog 160 = some (.agg [.int .i64 0, .csl []]) := by kernel_rfl
@[simp] theorem fld167_0 : fldOf Tryd.prog 167 0 = some (0, 1, false) := by kernel_rfl
@[simp] theorem fld167_1 : fldOf Tryd.prog 167 1 = some (1, 1, false) := by kernel_rfl
@[simp] theorem fld167_2 : fldOf Tryd.prog 167 2 = some (2, 1, false) := by kernel_rfl
@[simp] theorem plc167 : plcOf Tryd.prog 167 = some ([(0, 1), (1, 1), (2, 1)], [.csl [], .int .i64 0, .int .i64 0]) := by kernel_rfl
@[simp] theorem ap178 : apOf Tryd.prog 178 = some (9, 1, 16) := by kernel_rfl
@[simp] theorem ld178 : ldOf Tryd.prog 178 = some (1, false) := by kernel_rfl
@[simp] theorem mk178 : mkOf Tryd.prog 178 = some (9, 1, 16, .str []) := by kernel_rfl
@[simp] theorem sl178 : slOf Tryd.prog 178 = some (9, 1, 16) := by kernel_rfl
@[simp] theorem ar183 : arOf Tryd.prog 183 = some (17, 4, 1) := by kernel_rfl
@[simp] theorem ld183 : ldOf Tryd.prog 183 = some (17, true) := by kernel_rfl
@[simp] theorem plc183 : plcOf Tryd.prog 183 = some ([(0, 1), (1, 1), (2, 1), (3, 1), (4, 1), (5, 1), (6, 1), (7, 1), (8, 1), (9, 1), (10, 1), (11, 1), (12, 1), (13, 1), (14, 1), (15, 1), (16, 1)], [.bool false, .bool false, .bool false, .bool false, .bool false, .bool false, .bool false, .bool false, .bool false, .bool false, .bool false, .bool false, .bool false, .bool false, .bool false, .bool false, .bool false]) := by kernel_rfl
@[simp] theorem sz183 : szOf Tryd.prog 183 = some 17 := by kernel_rfl
@[simp] theorem ze183 : zeOf Tryd.prog 183 = some (.agg [.bool false, .bool false, .bool false, .bool false, .bool false, .bool false, .bool false, .bool false, .bool false, .bool false, .bool false, .bool false, .bool false, .bool false, .bool false, .bool false, .bool false]) := by kernel_rfl
@[simp] theorem fld185_0 : fldOf Tryd.prog 185 0 = some (0, 7, true) := by kernel_rfl
@[simp] theorem fld185_1 : fldOf Tryd.prog 185 1 = some (7, 10, true) := by kernel_rfl
@[simp] theorem ld185 : ldOf Tryd.prog 185 = some (17, true) := by kernel_rfl
@[simp] theorem plc185 : plcOf Tryd.prog 185 = some ([(0, 7), (7, 10)], [.int .i64 0, .bool false, .csl [], .csl [], .csl [], .int .i64 0, .csl [], .int .i64 0, .int .i64 0, .int .i64 0, .csl [], .csl [], .csl [], .csl [], .csl [], .csl [], .csl []]) := by kernel_rfl
@[simp] theorem con189 : Tryd.prog.concrete 189 = true := by kernel_rfl
@[simp] theorem ld189 : ldOf Tryd.prog 189 = some (1, false) := by kernel_rfl
@[simp] theorem ze189 : zeOf Tryd.prog 189 = some (.nilp) := by kernel_rfl
@[simp] theorem con191 : Tryd.prog.concrete 191 = true := by kernel_rfl
@[simp] theorem fld193_0 : fldOf Tryd.prog 193 0 = some (0, 1, false) := by kernel_rfl
@[simp] theorem fld193_1 : fldOf Tryd.prog 193 1 = some (1, 1, false) := by kernel_rfl
@[simp] theorem plc193 : plcOf Tryd.prog 193 = some ([(0, 1), (1, 1)], [.int .i64 0, .nili]) := by kernel_rfl
@[simp] theorem fld198_0 : fldOf Tryd.prog 198 0 = some (0, 1, false) := by kernel_rfl
@[simp] theorem fld198_1 : fldOf Tryd.prog 198 1 = some (1, 21, true) := by kernel_rfl
@[simp] theorem plc198 : plcOf Tryd.prog 198 = some ([(0, 1), (1, 21)], [.csl [], .int .u32 0, .int .u32 0, .int .u32 0, .int .u32 0, .int .u32 0, .int .u32 0, .int .u32 0, .int .u32 0, .int .u32 0, .int .u32 0, .int .u32 0, .int .u32 0, .int .u32 0, .int .u32 0, .int .u32 0, .int .u32 0, .int .u32 0, .int .i64 0, .int .i64 0, .int .i64 0, .int .i64 0]) := by kernel_rfl
@[simp] theorem eq203 : eqOf Tryd.prog 203 = some [.i, .i, .i, .i] := by kernel_rfl
@[simp] theorem fld203_0 : fldOf Tryd.prog 203 0 = some (0, 1, false) := by kernel_rfl
@[simp] theorem fld203_1 : fldOf Tryd.prog 203 1 = some (1, 1, false) := by kernel_rfl
@[simp] theorem fld203_2 : fldOf Tryd.prog 203 2 = some (2, 1, false) := by kernel_rfl
@[simp] theorem fld203_3 : fldOf Tryd.prog 203 3 = some (3, 1, false) := by kernel_rfl
@[simp] theorem ld203 : ldOf Tryd.prog 203 = some (4, true) := by kernel_rfl
@[simp] theorem plc203 : plcOf Tryd.prog 203 = some ([(0, 1), (1, 1), (2, 1), (3, 1)], [.int .i64 0, .int .i64 0, .int .i64 0, .int .i64 0]) := by kernel_rfl
@[simp] theorem sz203 : szOf Tryd.prog 203 = some 4 := by kernel_rfl
@[simp] theorem ze203 : zeOf Tryd.prog 203 = some (.agg [.int .i64 0, .int .i64 0, .int .i64 0, .int .i64 0]) := by kernel_rfl
@[simp] theorem sl205 : slOf Tryd.prog 205 = some (128, 1, 8) := by kernel_rfl
@[simp] theorem sl215 : slOf Tryd.prog 215 = some (141, 2, 16) := by kernel_rfl
@[simp] theorem sl217 : slOf Tryd.prog 217 = some (145, 1, 8) := by kernel_rfl
@[simp] theorem fld222_0 : fldOf Tryd.prog 222 0 = some (0, 1, false) := by kernel_rfl
@[simp] theorem fld222_1 : fldOf Tryd.prog 222 1 = some (1, 1, false) := by kernel_rfl
@[simp] theorem plc222 : plcOf Tryd.prog 222 = some ([(0, 1), (1, 1)], [.csl [], .nili]) := by kernel_rfl
@[simp] theorem fld229_0 : fldOf Tryd.prog 229 0 = some (0, 1, false) := by kernel_rfl
@[simp] theorem fld229_1 : fldOf Tryd.prog 229 1 = some (1, 1, false) := by kernel_rfl
@[simp] theorem fld229_2 : fldOf Tryd.prog 229 2 = some (2, 1, false) := by kernel_rfl
@[simp] theorem plc229 : plcOf Tryd.prog 229 = some ([(0, 1), (1, 1), (2, 1)], [.csl [], .int .i64 0, .int .i64 0]) := by kernel_rfl
@[simp] theorem fld234_0 : fldOf Tryd.prog 234 0 = some (0, 1, false) := by kernel_rfl
@[simp] theorem fld234_1 : fldOf Tryd.prog 234 1 = some (1, 2, true) := by kernel_rfl
@[simp] theorem plc234 : plcOf Tryd.prog 234 = some ([(0, 1), (1, 2)], [.csl [], .int .i64 0, .int .i64 0]) := by kernel_rfl
@[simp] theorem fld239_0 : fldOf Tryd.prog 239 0 = some (0, 1, false) := by kernel_rfl
@[simp] theorem fld239_1 : fldOf Tryd.prog 239 1 = some (1, 1, false) := by kernel_rfl
@[simp] theorem ld239 : ldOf Tryd.prog 239 = some (2, true) := by kernel_rfl
@[simp] theorem plc239 : plcOf Tryd.prog 239 = some ([(0, 1), (1, 1)], [.csl [], .int .i64 0]) := by kernel_rfl
@[simp] theorem sz239 : szOf Tryd.prog 239 = some 2 := by kernel_rfl
@[simp] theorem ze239 : zeOf Tryd.prog 239 = some (.agg [.csl [], .int .i64 0]) := by kernel_rfl
@[simp] theorem ld252 : ldOf Tryd.prog 252 = some (1, false) := by kernel_rfl
@[simp] theorem sz252 : szOf Tryd.prog 252 = some 1 := by kernel_rfl
@[simp] theorem ld258 : ldOf Tryd.prog 258 = some (3, true) := by kernel_rfl
@[simp] theorem sz258 : szOf Tryd.prog 258 = some 3 := by kernel_rfl
@[simp] theorem ze258 : zeOf Tryd.prog 258 = some (.agg [.nilp, .nilp, .int .u64 0]) := by kernel_rfl
@[simp] theorem fld267_0 : fldOf Tryd.prog 267 0 = some (0, 1, false) := by kernel_rfl
@[simp] theorem fld267_1 : fldOf Tryd.prog 267 1 = some (1, 1, false) := by kernel_rfl
@[simp] theorem fld267_2 : fldOf Tryd.prog 267 2 = some (2, 1, false) := by kernel_rfl
@[simp] theorem fld267_3 : fldOf Tryd.prog 267 3 = some (3, 1, false) := by kernel_rfl
@[simp] theorem fld267_4 : fldOf Tryd.prog 267 4 = some (4, 1, false) := by kernel_rfl
@[simp] theorem ld267 : ldOf Tryd.prog 267 = some (5, true) := by kernel_rfl
@[simp] theorem plc267 : plcOf Tryd.prog 267 = some ([(0, 1), (1, 1), (2, 1), (3, 1), (4, 1)], [.int .i64 0, .int .i64 0, .int .i64 0, .int .i64 0, .int .i64 0]) := by kernel_rfl
@[simp] theorem sz267 : szOf Tryd.prog 267 = some 5 := by kernel_rfl
@[simp] theorem ze267 : zeOf Tryd.prog 267 = some (.agg [.int .i64 0, .int .i64 0, .int .i64 0, .int .i64 0, .int .i64 0]) := by kernel_rfl
@[simp] theorem map284 : mapOf Tryd.prog 284 = some (.i64, .bool false) := by kernel_rfl
@[simp] theorem fld286_0 : fldOf Tryd.prog 286 0 = some (0, 1, false) := by kernel_rfl
@[simp] theorem fld286_1 : fldOf Tryd.prog 286 1 = some (1, 1, false) := by kernel_rfl
@[simp] theorem ld286 : ldOf Tryd.prog 286 = some (2, true) := by kernel_rfl
@[simp] theorem sz286 : szOf Tryd.prog 286 = some 2 := by kernel_rfl
@[simp] theorem ze286 : zeOf Tryd.prog 286 = some (.agg [.int .i64 0, .int .i64 0]) := by kernel_rfl
@[simp] theorem sl297 : slOf Tryd.prog 297 = some (33, 1, 16) := by kernel_rfl
@[simp] theorem fld326_0 : fldOf Tryd.prog 326 0 = some (0, 1, false) := by kernel_rfl
@[simp] theorem fld326_1 : fldOf Tryd.prog 326 1 = some (1, 1, false) := by kernel_rfl
@[simp] theorem fld326_2 : fldOf Tryd.prog 326 2 = some (2, 1, false) := by kernel_rfl
@[simp] theorem fld326_3 : fldOf Tryd.prog 326 3 = some (3, 1, false) := by kernel_rfl
@[simp] theorem fld326_4 : fldOf Tryd.prog 326 4 = some (4, 1, false) := by kernel_rfl
@[simp] theorem ld326 : ldOf Tryd.prog 326 = some (5, true) := by kernel_rfl
@[simp] theorem plc326 : plcOf Tryd.prog 326 = some ([(0, 1), (1, 1), (2, 1), (3, 1), (4, 1)], [.bool false, .bool false, .bool false, .bool false, .bool false]) := by kernel_rfl
@[simp] theorem sz326 : szOf Tryd.prog 326 = some 5 := by kernel_rfl
@[simp] theorem ze326 : zeOf Tryd.prog 326 = some (.agg [.bool false, .bool false, .bool false, .bool false, .bool false]) := by kernel_rfl
@[simp] theorem fld337_0 : fldOf Tryd.prog 337 0 = some (0, 1, false) := by kernel_rfl
@[simp] theorem fld337_1 : fldOf Tryd.prog 337 1 = some (1, 1, false) := by kernel_rfl
@[simp] theorem fld337_2 : fldOf Tryd.prog 337 2 = some (2, 1, false) := by kernel_rfl
@[simp] theorem ld337 : ldOf Tryd.prog 337 = some (3, true) := by kernel_rfl
@[simp] theorem plc337 : plcOf Tryd.prog 337 = some ([(0, 1), (1, 1), (2, 1)], [.int .i64 0, .str [], .int .i64 0]) := by kernel_rfl
@[simp] theorem sz337 : szOf Tryd.prog 337 = some 3 := by kernel_rfl
@[simp] theorem ze337 : zeOf Tryd.prog 337 = some (.agg [.int .i64 0, .str [], .int .i64 0]) := by kernel_rfl
@[simp] theorem ap347 : apOf Tryd.prog 347 = some (337, 3, 32) := by kernel_rfl
@[simp] theorem ld347 : ldOf Tryd.prog 347 = some (1, false) := by kernel_rfl
@[simp] theorem sl347 : slOf Tryd.prog 347 = some (337, 3, 32) := by kernel_rfl
@[simp] theorem sz347 : szOf Tryd.prog 347 = some 1 := by kernel_rfl
@[simp] theorem ze347 : zeOf Tryd.prog 347 = some (.csl []) := by kernel_rfl
@[simp] theorem ar350 : arOf Tryd.prog 350 = some (256, 97, 1) := by kernel_rfl
@[simp] theorem plc350 : plcOf Tryd.prog 350 = some ([(0, 1), (1, 1), (2, 1), (3, 1), (4, 1), (5, 1), (6, 1), (7, 1), (8, 1), (9, 1), (10, 1), (11, 1), (12, 1), (13, 1), (14, 1), (15, 1), (16, 1), (17, 1), (18, 1), (19, 1), (20, 1), (21, 1), (22, 1), (23, 1), (24, 1), (25, 1), (26, 1), (27, 1), (28, 1), (29, 1), (30, 1), (31, 1), (32, 1), (33, 1), (34, 1), (35, 1), (36, 1), (37, 1), (38, 1), (39, 1), (40, 1), (41, 1), (42, 1), (43, 1), (44, 1), (45, 1), (46, 1), (47, 1), (48, 1), (49, 1), (50, 1), (51, 1), (52, 1), (53, 1), (54, 1), (55, 1), (56, 1), (57, 1), (58, 1), (59, 1), (60, 1), (61, 1), (62, 1), (63, 1), (64, 1), (65, 1), (66, 1), (67, 1), (68, 1), (69, 1), (70, 1), (71, 1), (72, 1), (73, 1), (74, 1), (75, 1), (76, 1), (77, 1), (78, 1), (79, 1), (80, 1), (81, 1), (82, 1), (83, 1), (84, 1), (85, 1), (86, 1), (87, 1), (88, 1), (89, 1), (90, 1), (91, 1), (92, 1), (93, 1), (94, 1), (95, 1), (96, 1), (97, 1), (98, 1), (99, 1), (100, 1), (101, 1), (102, 1), (103, 1), (104, 1), (105, 1), (106, 1), (107, 1), (108, 1), (109, 1), (110, 1), (111, 1), (112, 1), (113, 1), (114, 1), (115, 1), (116, 1), (117, 1), (118, 1), (119, 1), (120, 1), (121, 1), (122, 1), (123, 1), (124, 1), (125, 1), (126, 1), (127, 1), (128, 1), (129, 1), (130, 1), (131, 1), (132, 1), (133, 1), (134, 1), (135, 1), (136, 1), (137, 1), (138, 1), (139, 1), (140, 1), (141, 1), (142, 1), (143, 1), (144, 1), (145, 1), (146, 1), (147, 1), (148, 1), (149, 1), (150, 1), (151, 1), (152, 1), (153, 1), (154, 1), (155, 1), (156, 1), (157, 1), (158, 1), (159, 1), (160, 1), (161, 1), (162, 1), (163, 1), (164, 1), (165, 1), (166, 1), (167, 1), (168, 1), (169, 1), (170, 1), (171, 1), (172, 1), (173, 1), (174, 1), (175, 1), (176, 1), (177, 1), (178, 1), (179, 1), (180, 1), (181, 1), (182, 1), (183, 1), (184, 1), (185, 1), (186, 1), (187, 1), (188, 1), (189, 1), (190, 1), (191, 1), (192, 1), (193, 1), (194, 1), (195, 1), (196, 1), (197, 1), (198, 1), (199, 1), (200, 1), (201, 1), (202, 1), (203, 1), (204, 1), (205, 1), (206, 1), (207, 1), (208, 1), (209, 1), (210, 1), (211, 1), (212, 1), (213, 1), (214, 1), (215, 1), (216, 1), (217, 1), (218, 1), (219, 1), (220, 1), (221, 1), (222, 1), (223, 1), (224, 1), (225, 1), (226, 1), (227, 1), (228, 1), (229, 1), (230, 1), (231, 1), (232, 1), (233, 1), (234, 1), (235, 1), (236, 1), (237, 1), (238, 1), (239, 1), (240, 1), (241, 1), (242, 1), (243, 1), (244, 1), (245, 1), (246, 1), (247, 1), (248, 1), (249, 1), (250, 1), (251, 1), (252, 1), (253, 1), (254, 1), (255, 1)], [.int .u32 0, .int .u32 0, .int .u32 0, .int .u32 0, .int .u32 0, .int .u32 0, .int .u32 0, .int .u32 0, .int .u32 0, .int .u32 0, .int .u32 0, .int .u32 0, .int .u32 0, .int .u32 0, .int .u32 0, .int .u32 0, .int .u32 0, .int .u32 0, .int .u32 0, .int .u32 0, .int .u32 0, .int .u32 0, .int .u32 0, .int .u32 0, .int .u32 0, .int .u32 0, .int .u32 0, .int .u32 0, .int .u32 0, .int .u32 0, .int .u32 0, .int .u32 0, .int .u32 0, .int .u32 0, .int .u32 0, .int .u32 0, .int .u32 0, .int .u32 0, .int .u32 0, .int .u32 0, .int .u32 0, .int .u32 0, .int .u32 0, .int .u32 0, .int .u32 0, .int .u32 0, .int .u32 0, .int .u32 0, .int .u32 0, .int .u32 0, .int .u32 0, .int .u32 0, .int .u32 0, .int .u32 0, .int .u32 0, .int .u32 0, .int .u32 0, .int .u32 0, .int .u32 0, .int .u32 0, .int .u32 0, .int .u32 0, .int .u32 0, .int .u32 0, .int .u32 0, .int .u32 0, .int .u32 0, .int .u32 0, .int .u32 0, .int .u32 0, .int .u32 0, .int .u32 0, .int .u32 0, .int .u32 0, .int .u32 0, .int .u32 0, .int .u32 0, .int .u32 0, .int .u32 0, .int .u32 0, .int .u32 0, .int .u32 0, .int .u32 0, .int .u32 0, .int .u32 0, .int .u32 0, .int .u32 0, .int .u32 0, .int .u32 0, .int .u32 0, .int .u32 0, .int .u32 0, .int .u32 0, .int .u32 0, .int .u32 0, .int .u32 0, .int .u32 0, .int .u32 0, .int .u32 0, .int .u32 0, .int .u32 0, .int .u32 0, .int .u32 0, .int .u32 0, .int .u32 0, .int .u32 0, .int .u32 0, .int .u32 0, .int .u32 0, .int .u32 0, .int .u32 0, .int .u32 0, .int .u32 0, .int .u32 0, .int .u32 0, .int .u32 0, .int .u32 0, .int .u32 0, .int .u32 0, .int .u32 0, .int .u32 0, .int .u32 0, .int .u32 0, .int .u32 0, .int .u32 0, .int .u32 0, .int .u32 0, .int .u32 0, .int .u32 0, .int .u32 0, .int .u32 0, .int .u32 0, .int .u32 0, .int .u32 0, .int .u32 0, .int .u32 0, .int .u32 0, .int .u32 0, .int .u32 0, .int .u32 0, .int .u32 0, .int .u32 0, .int .u32 0, .int .u32 0, .int .u32 0, .int .u32 0, .int .u32 0, .int .u32 0, .int .u32 0, .int .u32 0, .int .u32 0, .int .u32 0, .int .u32 0, .int .u32 0, .int .u32 0, .int .u32 0, .int .u32 0, .int .u32 0, .int .u32 0, .int .u32 0, .int .u32 0, .int .u32 0, .int .u32 0, .int .u32 0, .int .u32 0, .int .u32 0, .int .u32 0, .int .u32 0, .int .u32 0, .int .u32 0, .int .u32 0, .int .u32 0, .int .u32 0, .int .u32 0, .int .u32 0, .int .u32 0, .int .u32 0, .int .u32 0, .int .u32 0, .int .u32 0, .int .u32 0, .int .u32 0, .int .u32 0, .int .u32 0, .int .u32 0, .int .u32 0, .int .u32 0, .int .u32 0, .int .u32 0, .int .u32 0, .int .u32 0, .int .u32 0, .int .u32 0, .int .u32 0, .int .u32 0, .int .u32 0, .int .u32 0, .int .u32 0, .int .u32 0, .int .u32 0, .int .u32 0, .int .u32 0, .int .u32 0, .int .u32 0, .int .u32 0, .int .u32 0, .int .u32 0, .int .u32 0, .int .u32 0, .int .u32 0, .int .u32 0, .int .u32 0, .int .u32 0, .int .u32 0, .int .u32 0, .int .u32 0, .int .u32 0, .int .u32 0, .int .u32 0, .int .u32 0, .int .u32 0, .int .u32 0, .int .u32 0, .int .u32 0, .int .u32 0, .int .u32 0, .int .u32 0, .int .u32 0, .int .u32 0, .int .u32 0, .int .u32 0, .int .u32 0, .int .u32 0, .int .u32 0, .int .u32 0, .int .u32 0, .int .u32 0, .int .u32 0, .int .u32 0, .int .u32 0, .int .u32 0, .int .u32 0, .int .u32 0, .int .u32 0, .int .u32 0, .int .u32 0, .int .u32 0, .int .u32 0, .int .u32 0, .int .u32 0, .int .u32 0, .int .u32 0, .int .u32 0, .int .u32 0, .int .u32 0, .int .u32 0]) := by kernel_rfl
@[simp] theorem ar354 : arOf Tryd.prog 354 = some (256, 5, 1) := by kernel_rfl
@[simp] theorem plc354 : plcOf Tryd.prog 354 = some ([(0, 1), (1, 1), (2, 1), (3, 1), (4, 1), (5, 1), (6, 1), (7, 1), (8, 1), (9, 1), (10, 1), (11, 1), (12, 1), (13, 1), (14, 1), (15, 1), (16, 1), (17, 1), (18, 1), (19, 1), (20, 1), (21, 1), (22, 1), (23, 1), (24, 1), (25, 1), (26, 1), (27, 1), (28, 1), (29, 1), (30, 1), (31, 1), (32, 1), (33, 1), (34, 1), (35, 1), (36, 1), (37, 1), (38, 1), (39, 1), (40, 1), (41, 1), (42, 1), (43, 1), (44, 1), (45, 1), (46, 1), (47, 1), (48, 1), (49, 1), (50, 1), (51, 1), (52, 1), (53, 1), (54, 1), (55, 1), (56, 1), (57, 1), (58, 1), (59, 1), (60, 1), (61, 1), (62, 1), (63, 1), (64, 1), (65, 1), (66, 1), (67, 1), (68, 1), (69, 1), (70, 1), (71, 1), (72, 1), (73, 1), (74, 1), (75, 1), (76, 1), (77, 1), (78, 1), (79, 1), (80, 1), (81, 1), (82, 1), (83, 1), (84, 1), (85, 1), (86, 1), (87, 1), (88, 1), (89, 1), (90, 1), (91, 1), (92, 1), (93, 1), (94, 1), (95, 1), (96, 1), (97, 1), (98, 1), (99, 1), (100, 1), (101, 1), (102, 1), (103, 1), (104, 1), (105, 1), (106, 1), (107, 1), (108, 1), (109, 1), (110, 1), (111, 1), (112, 1), (113, 1), (114, 1), (115, 1), (116, 1), (117, 1), (118, 1), (119, 1), (120, 1), (121, 1), (122, 1), (123, 1), (124, 1), (125, 1), (126, 1), (127, 1), (128, 1), (129, 1), (130, 1), (131, 1), (132, 1), (133, 1), (134, 1), (135, 1), (136, 1), (137, 1), (138, 1), (139, 1), (140, 1), (141, 1), (142, 1), (143, 1), (144, 1), (145, 1), (146, 1), (147, 1), (148, 1), (149, 1), (150, 1), (151, 1), (152, 1), (153, 1), (154, 1), (155, 1), (156, 1), (157, 1), (158, 1), (159, 1), (160, 1), (161, 1), (162, 1), (163, 1), (164, 1), (165, 1), (166, 1), (167, 1), (168, 1), (169, 1), (170, 1), (171, 1), (172, 1), (173, 1), (174, 1), (175, 1), (176, 1), (177, 1), (178, 1), (179, 1), (180, 1), (181, 1), (182, 1), (183, 1), (184, 1), (185, 1), (186, 1), (187, 1), (188, 1), (189, 1), (190, 1), (191, 1), (192, 1), (193, 1), (194, 1), (195, 1), (196, 1), (197, 1), (198, 1), (199, 1), (200, 1), (201, 1), (202, 1), (203, 1), (204, 1), (205, 1), (206, 1), (207, 1), (208, 1), (209, 1), (210, 1), (211, 1), (212, 1), (213, 1), (214, 1), (215, 1), (216, 1), (217, 1), (218, 1), (219, 1), (220, 1), (221, 1), (222, 1), (223, 1), (224, 1), (225, 1), (226, 1), (227, 1), (228, 1), (229, 1), (230, 1), (231, 1), (232, 1), (233, 1), (234, 1), (235, 1), (236, 1), (237, 1), (238, 1), (239, 1), (240, 1), (241, 1), (242, 1), (243, 1), (244, 1), (245, 1), (246, 1), (247, 1), (248, 1), (249, 1), (250, 1), (251, 1), (252, 1), (253, 1), (254, 1), (255, 1)], [.int .u8 0, .int .u8 0, .int .u8 0, .int .u8 0, .int .u8 0, .int .u8 0, .int .u8 0, .int .u8 0, .int .u8 0, .int .u8 0, .int .u8 0, .int .u8 0, .int .u8 0, .int .u8 0, .int .u8 0, .int .u8 0, .int .u8 0, .int .u8 0, .int .u8 0, .int .u8 0, .int .u8 0, .int .u8 0, .int .u8 0, .int .u8 0, .int .u8 0, .int .u8 0, .int .u8 0, .int .u8 0, .int .u8 0, .int .u8 0, .int .u8 0, .int .u8 0, .int .u8 0, .int .u8 0, .int .u8 0, .int .u8 0, .int .u8 0, .int .u8 0, .int .u8 0, .int .u8 0, .int .u8 0, .int .u8 0, .int .u8 0, .int .u8 0, .int .u8 0, .int .u8 0, .int .u8 0, .int .u8 0, .int .u8 0, .int .u8 0, .int .u8 0, .int .u8 0, .int .u8 0, .int .u8 0, .int .u8 0, .int .u8 0, .int .u8 0, .int .u8 0, .int .u8 0, .int .u8 0, .int .u8 0, .int .u8 0, .int .u8 0, .int .u8 0, .int .u8 0, .int .u8 0, .int .u8 0, .int .u8 0, .int .u8 0, .int .u8 0, .int .u8 0, .int .u8 0, .int .u8 0, .int .u8 0, .int .u8 0, .int .u8 0, .int .u8 0, .int .u8 0, .int .u8 0, .int .u8 0, .int .u8 0, .int .u8 0, .int .u8 0, .int .u8 0, .int .u8 0, .int .u8 0, .int .u8 0, .int .u8 0, .int .u8 0, .int .u8 0, .int .u8 0, .int .u8 0, .int .u8 0, .int .u8 0, .int .u8 0, .int .u8 0, .int .u8 0, .int .u8 0, .int .u8 0, .int .u8 0, .int .u8 0, .int .u8 0, .int .u8 0, .int .u8 0, .int .u8 0, .int .u8 0, .int .u8 0, .int .u8 0, .int .u8 0, .int .u8 0, .int .u8 0, .int .u8 0, .int .u8 0, .int .u8 0, .int .u8 0, .int .u8 0, .int .u8 0, .int .u8 0, .int .u8 0, .int .u8 0, .int .u8 0, .int .u8 0, .int .u8 0, .int .u8 0, .int .u8 0, .int .u8 0, .int .u8 0, .int .u8 0, .int .u8 0, .int .u8 0, .int .u8 0, .int .u8 0, .int .u8 0, .int .u8 0, .int .u8 0, .int .u8 0, .int .u8 0, .int .u8 0, .int .u8 0, .int .u8 0, .int .u8 0, .int .u8 0, .int .u8 0, .int .u8 0, .int .u8 0, .int .u8 0, .int .u8 0, .int .u8 0, .int .u8 0, .int .u8 0, .int .u8 0, .int .u8 0, .int .u8 0, .int .u8 0, .int .u8 0, .int .u8 0, .int .u8 0, .int .u8 0, .int .u8 0, .int .u8 0, .int .u8 0, .int .u8 0, .int .u8 0, .int .u8 0, .int .u8 0, .int .u8 0, .int .u8 0, .int .u8 0, .int .u8 0, .int .u8 0, .int .u8 0, .int .u8 0, .int .u8 0, .int .u8 0, .int .u8 0, .int .u8 0, .int .u8 0, .int .u8 0, .int .u8 0, .int .u8 0, .int .u8 0, .int .u8 0, .int .u8 0, .int .u8 0, .int .u8 0, .int .u8 0, .int .u8 0, .int .u8 0, .int .u8 0, .int .u8 0, .int .u8 0, .int .u8 0, .int .u8 0, .int .u8 0, .int .u8 0, .int .u8 0, .int .u8 0, .int .u8 0, .int .u8 0, .int .u8 0, .int .u8 0, .int .u8 0, .int .u8 0, .int .u8 0, .int .u8 0, .int .u8 0, .int .u8 0, .int .u8 0, .int .u8 0, .int .u8 0, .int .u8 0, .int .u8 0, .int .u8 0, .int .u8 0, .int .u8 0, .int .u8 0, .int .u8 0, .int .u8 0, .int .u8 0, .int .u8 0, .int .u8 0, .int .u8 0, .int .u8 0, .int .u8 0, .int .u8 0, .int .u8 0, .int .u8 0, .int .u8 0, .int .u8 0, .int .u8 0, .int .u8 0, .int .u8 0, .int .u8 0, .int .u8 0, .int .u8 0, .int .u8 0, .int .u8 0, .int .u8 0, .int .u8 0, .int .u8 0, .int .u8 0, .int .u8 0, .int .u8 0, .int .u8 0, .int .u8 0, .int .u8 0, .int .u8 0, .int .u8 0, .int .u8 0, .int .u8 0, .int .u8 0, .int .u8 0, .int .u8 0, .int .u8 0, .int .u8 0, .int .u8 0]) := by kernel_rfl
@[simp] theorem sz354 : szOf Tryd.prog 354 = some 256 := by kernel_rfl
@[simp] theorem ap357 : apOf Tryd.prog 357 = some (359, 2, 16) := by kernel_rfl
@[simp] theorem mk357 : mkOf Tryd.prog 357 = some (359, 2, 16, .agg [.int .i64 0, .int .i64 0]) := by kernel_rfl
@[simp] theorem sl357 : slOf Tryd.prog 357 = some (359, 2, 16) := by kernel_rfl
@[simp] theorem fld359_0 : fldOf Tryd.prog 359 0 = some (0, 1, false) := by kernel_rfl
@[simp] theorem fld359_1 : fldOf Tryd.prog 359 1 = some (1, 1, false) := by kernel_rfl
@[simp] theorem ld359 : ldOf Tryd.prog 359 = some (2, true) := by kernel_rfl
@[simp] theorem plc359 : plcOf Tryd.prog 359 = some ([(0, 1), (1, 1)], [.int .i64 0, .int .i64 0]) := by kernel_rfl
@[simp] theorem sz359 : szOf Tryd.prog 359 = some 2 := by kernel_rfl
@[simp] theorem ze359 : zeOf Tryd.prog 359 = some (.agg [.int .i64 0, .int .i64 0]) := by kernel_rfl
@[simp] theorem ld361 : ldOf Tryd.prog 361 = some (1, false) := by kernel_rfl
@[simp] theorem sz361 : szOf Tryd.prog 361 = some 1 := by kernel_rfl
@[simp] theorem ld362 : ldOf Tryd.prog 362 = some (1, false) := by kernel_rfl
@[simp] theorem sl362 : slOf Tryd.prog 362 = some (368, 3, 6) := by kernel_rfl
@[simp] theorem ld363 : ldOf Tryd.prog 363 = some (1, false) := by kernel_rfl
@[simp] theorem sl363 : slOf Tryd.prog 363 = some (371, 3, 12) := by kernel_rfl
@[simp] theorem fld365_0 : fldOf Tryd.prog 365 0 = some (0, 1, false) := by kernel_rfl
@[simp] theorem fld365_1 : fldOf Tryd.prog 365 1 = some (1, 1, false) := by kernel_rfl
@[simp] theorem fld365_2 : fldOf Tryd.prog 365 2 = some (2, 1, false) := by kernel_rfl
@[simp] theorem plc365 : plcOf Tryd.prog 365 = some ([(0, 1), (1, 1), (2, 1)], [.csl [], .csl [], .int .i64 0]) := by kernel_rfl
@[simp] theorem ld366 : ldOf Tryd.prog 366 = some (1, false) := by kernel_rfl
@[simp] theorem fld368_0 : fldOf Tryd.prog 368 0 = some (0, 1, false) := by kernel_rfl
@[simp] theorem fld368_1 : fldOf Tryd.prog 368 1 = some (1, 1, false) := by kernel_rfl
@[simp] theorem fld368_2 : fldOf Tryd.prog 368 2 = some (2, 1, false) := by kernel_rfl
@[simp] theorem plc368 : plcOf Tryd.prog 368 = some ([(0, 1), (1, 1), (2, 1)], [.int .u16 0, .int .u16 0, .int .u16 0]) := by kernel_rfl
@[simp] theorem ze368 : zeOf Tryd.prog 368 = some (.agg [.int .u16 0, .int .u16 0, .int .u16 0]) := by kernel_rfl
@[simp] theorem fld371_0 : fldOf Tryd.prog 371 0 = some (0, 1, false) := by kernel_rfl
@[simp] theorem fld371_1 : fldOf Tryd.prog 371 1 = some (1, 1, false) := by kernel_rfl
@[simp] theorem fld371_2 : fldOf Tryd.prog 371 2 = some (2, 1, false) := by kernel_rfl
@[simp] theorem ld371 : ldOf Tryd.prog 371 = some (3, true) := by kernel_rfl
@[simp] theorem sz371 : szOf Tryd.prog 371 = some 3 := by kernel_rfl
@[simp] theorem ze371 : zeOf Tryd.prog 371 = some (.agg [.int .u32 0, .int .u32 0, .int .u32 0]) := by kernel_rfl
@[simp] theorem con375 : Tryd.prog.concrete 375 = true := by kernel_rfl
@[simp] theorem plc396 : plcOf Tryd.prog 396 = some ([(0, 1)], [.str []]) := by kernel_rfl
@[simp] theorem con406 : Tryd.prog.concrete 406 = true := by kernel_rfl
end Go.Proofs.YtdcopkocdmkiiaaDoor.Am
