import Derived.Test.YtabkbhpeeefmgaaEngS9
import Derived.Test.YtabkbhpeeefmgaaW42
open Go Go.Proofs Eng
set_option maxRecDepth 100000
set_option linter.unusedSimpArgs false
set_option linter.unusedVariables false
def a8 : AC := .seq (.ops false [] [⟨some 3, .box 88 5 1 true, [.t 0], none⟩, ⟨some 4, .box 90 3 1 true, [.t 1], none⟩, ⟨some 6, .p (.mov), [.c (.bool false)], none⟩]) (.seq (.seq (.ops false [] [⟨some 26, .call 13, [], none⟩, ⟨some 27, .p (.notB), [.t 26], none⟩]) (.cond (.t 27) (.seq (.ops false [] [⟨some 6, .p (.mov), [.c (.bool false)], none⟩]) (.ret)) (.skip))) (.seq (.seq (.ops false [] [⟨some 28, .p (.faddr 0), [.t 3], none⟩, ⟨some 29, .load 3 true, [.t 28], none⟩, ⟨some 30, .call 46, [.t 29], none⟩, ⟨some 31, .p (.binI .neq), [.t 30, .c (.int .i64 0)], none⟩, ⟨some 32, .p (.mov), [.t 31], none⟩, ⟨some 33, .load 3 true, [.t 4], some (32, false)⟩, ⟨some 34, .call 47, [.t 33], some (32, false)⟩, ⟨some 35, .p (.binI .neq), [.t 34, .c (.int .i64 0)], some (32, false)⟩, ⟨some 36, .p (.pick), [.t 32, .c (.bool true), .t 35], none⟩, ⟨some 37, .p (.mov), [.t 36], none⟩, ⟨some 38, .p (.faddr 3), [.t 3], some (37, false)⟩, ⟨some 39, .load 2 true, [.t 38], some (37, false)⟩, ⟨some 40, .call 48, [.t 39], some (37, false)⟩, ⟨some 41, .p (.binI .neq), [.t 40, .c (.int .i64 0)], some (37, false)⟩, ⟨some 42, .p (.pick), [.t 37, .c (.bool true), .t 41], none⟩, ⟨some 43, .p (.mov), [.t 42], none⟩, ⟨some 44, .p (.mov), [.t 2], some (43, false)⟩, ⟨some 45, .call 20, [.t 44, .c (.int .i64 (-100)), .c (.int .i64 100)], some (43, false)⟩, ⟨some 46, .p (.notB), [.t 45], some (43, false)⟩, ⟨some 47, .p (.pick), [.t 43, .c (.bool true), .t 46], none⟩]) (.cond (.t 47) (.seq (.ops false [] [⟨some 6, .p (.mov), [.c (.bool true)], none⟩]) (.ret)) (.skip))) (.seq (.ops false [] [⟨some 49, .p (.faddr 0), [.t 3], none⟩, ⟨some 50, .load 3 true, [.t 49], none⟩, ⟨some 51, .load 3 true, [.t 4], none⟩, ⟨some 52, .p (.faddr 3), [.t 3], none⟩, ⟨some 53, .load 2 true, [.t 52], none⟩, ⟨some 54, .call 49, [.t 50, .t 51, .t 53], none⟩, ⟨some 48, .p (.mov), [.t 54], none⟩, ⟨some 55, .p (.ext 0), [.t 48], none⟩, ⟨some 56, .p (.ext 1), [.t 48], none⟩, ⟨some 7, .alloc 95 2 [.agg [.int .i64 0, .int .i64 0]], [], none⟩, ⟨none, .store 2 true, [.t 7, .t 55], none⟩, ⟨some 8, .p (.mov), [.t 56], none⟩]) (.seq (.seq (.ops false [] [⟨some 57, .p (.mov), [.t 8], none⟩, ⟨some 58, .p (.binI .neq), [.t 57, .c (.int .i64 0)], none⟩]) (.cond (.t 58) (.seq (.ops false [] [⟨some 59, .p (.mov), [.t 8], none⟩, ⟨some 60, .p (.binI .eql), [.t 59, .c (.int .i64 8)], none⟩, ⟨some 6, .p (.mov), [.t 60], none⟩]) (.ret)) (.skip))) (.seq (.ops false [] [⟨some 61, .p (.faddr 0), [.t 3], none⟩, ⟨some 62, .load 3 true, [.t 61], none⟩, ⟨some 9, .alloc 46 3 [.agg [.int .i64 0, .int .i64 0, .int .i64 0]], [], none⟩, ⟨none, .store 3 true, [.t 9, .t 62], none⟩]) (.seq (.ops false [] [⟨some 63, .p (.faddr 0), [.t 3], none⟩, ⟨some 64, .p (.faddr 2), [.t 63], none⟩, ⟨some 65, .load 1 false, [.t 64], none⟩, ⟨some 66, .p (.neg), [.t 65], none⟩, ⟨some 67, .p (.faddr 2), [.t 9], none⟩, ⟨none, .store 1 false, [.t 67, .t 66], none⟩]) (.seq (.ops false [] [⟨some 69, .load 3 true, [.t 9], none⟩, ⟨some 70, .load 3 true, [.t 4], none⟩, ⟨some 71, .p (.faddr 3), [.t 3], none⟩, ⟨some 72, .load 2 true, [.t 71], none⟩, ⟨some 73, .call 49, [.t 69, .t 70, .t 72], none⟩, ⟨some 68, .p (.mov), [.t 73], none⟩, ⟨some 74, .p (.ext 0), [.t 68], none⟩, ⟨some 75, .p (.ext 1), [.t 68], none⟩, ⟨some 10, .alloc 95 2 [.agg [.int .i64 0, .int .i64 0]], [], none⟩, ⟨none, .store 2 true, [.t 10, .t 74], none⟩, ⟨some 11, .p (.mov), [.t 75], none⟩]) (.seq (.ops false [] [⟨some 77, .p (.faddr 0), [.t 3], none⟩, ⟨some 78, .load 3 true, [.t 77], none⟩, ⟨some 79, .load 3 true, [.t 4], none⟩, ⟨some 80, .p (.faddr 0), [.t 3], none⟩, ⟨some 81, .p (.faddr 0), [.t 80], none⟩, ⟨some 82, .load 2 true, [.t 81], none⟩, ⟨some 83, .call 49, [.t 78, .t 79, .t 82], none⟩, ⟨some 76, .p (.mov), [.t 83], none⟩, ⟨some 84, .p (.ext 0), [.t 76], none⟩, ⟨some 85, .p (.ext 1), [.t 76], none⟩, ⟨some 12, .alloc 95 2 [.agg [.int .i64 0, .int .i64 0]], [], none⟩, ⟨none, .store 2 true, [.t 12, .t 84], none⟩, ⟨some 13, .p (.mov), [.t 85], none⟩]) (.seq (.ops false [] [⟨some 87, .p (.faddr 0), [.t 3], none⟩, ⟨some 88, .load 3 true, [.t 87], none⟩, ⟨some 89, .load 3 true, [.t 4], none⟩, ⟨some 90, .p (.faddr 0), [.t 4], none⟩, ⟨some 91, .load 2 true, [.t 90], none⟩, ⟨some 92, .call 49, [.t 88, .t 89, .t 91], none⟩, ⟨some 86, .p (.mov), [.t 92], none⟩, ⟨some 93, .p (.ext 0), [.t 86], none⟩, ⟨some 94, .p (.ext 1), [.t 86], none⟩, ⟨some 14, .alloc 95 2 [.agg [.int .i64 0, .int .i64 0]], [], none⟩, ⟨none, .store 2 true, [.t 14, .t 93], none⟩, ⟨some 15, .p (.mov), [.t 94], none⟩]) (.seq (.seq (.ops true [] [⟨some 95, .p (.mov), [.t 11], none⟩, ⟨some 96, .p (.binI .neq), [.t 95, .c (.int .i64 0)], none⟩, ⟨some 97, .p (.mov), [.t 96], none⟩, ⟨some 98, .p (.faddr 1), [.t 10], some (97, false)⟩, ⟨some 99, .load 1 false, [.t 98], some (97, false)⟩, ⟨some 100, .p (.faddr 1), [.t 7], some (97, false)⟩, ⟨some 101, .load 1 false, [.t 100], some (97, false)⟩, ⟨some 102, .p (.binI .neq), [.t 99, .t 101], some (97, false)⟩, ⟨some 103, .p (.pick), [.t 97, .c (.bool true), .t 102], none⟩, ⟨some 104, .p (.mov), [.t 103], none⟩, ⟨some 105, .p (.faddr 0), [.t 10], some (104, false)⟩, ⟨some 106, .load 1 false, [.t 105], some (104, false)⟩, ⟨some 107, .p (.faddr 0), [.t 7], some (104, false)⟩, ⟨some 108, .load 1 false, [.t 107], some (104, false)⟩, ⟨some 109, .p (.neg), [.t 108], some (104, false)⟩, ⟨some 110, .p (.binI .neq), [.t 106, .t 109], some (104, false)⟩, ⟨some 111, .p (.pick), [.t 104, .c (.bool true), .t 110], none⟩, ⟨some 112, .p (.mov), [.t 111], none⟩, ⟨some 113, .p (.mov), [.t 13], some (112, false)⟩, ⟨some 114, .p (.binI .neq), [.t 113, .c (.int .i64 0)], some (112, false)⟩, ⟨some 115, .p (.pick), [.t 112, .c (.bool true), .t 114], none⟩, ⟨some 116, .p (.mov), [.t 115], none⟩, ⟨some 117, .load 2 true, [.t 12], some (116, false)⟩, ⟨some 118, .call 50, [.c (.int .i64 0)], some (116, false)⟩, ⟨some 119, .p (.eqa true [.i, .i]), [.t 117, .t 118], some (116, false)⟩, ⟨some 120, .p (.pick), [.t 116, .c (.bool true), .t 119], none⟩, ⟨some 121, .p (.mov), [.t 120], none⟩, ⟨some 122, .p (.mov), [.t 15], some (121, false)⟩, ⟨some 123, .p (.binI .neq), [.t 122, .c (.int .i64 0)], some (121, false)⟩, ⟨some 124, .p (.pick), [.t 121, .c (.bool true), .t 123], none⟩, ⟨some 125, .p (.mov), [.t 124], none⟩, ⟨some 126, .load 2 true, [.t 14], some (125, false)⟩, ⟨some 127, .call 50, [.c (.int .i64 0)], some (125, false)⟩, ⟨some 128, .p (.eqa true [.i, .i]), [.t 126, .t 127], some (125, false)⟩, ⟨some 129, .p (.pick), [.t 125, .c (.bool true), .t 128], none⟩]) (.cond (.t 129) (.seq (.ops false [] [⟨some 6, .p (.mov), [.c (.bool false)], none⟩]) (.ret)) (.skip))) (.seq (.ops true [(1, 5), (2, 5), (4, 5), (1, 6), (2, 6), (4, 6), (5, 6), (1, 7), (2, 7), (4, 7), (5, 7), (6, 7), (2, 8), (4, 8), (4, 9)] [⟨some 130, .p (.faddr 0), [.t 3], none⟩, ⟨some 131, .load 3 true, [.t 130], none⟩, ⟨some 132, .load 3 true, [.t 4], none⟩, ⟨some 133, .p (.faddr 3), [.t 3], none⟩, ⟨some 134, .load 2 true, [.t 133], none⟩, ⟨some 16, .alloc 46 3 [.agg [.int .i64 0, .int .i64 0, .int .i64 0]], [], none⟩, ⟨some 17, .alloc 90 3 [.agg [.int .i64 0, .int .i64 0, .int .i64 0]], [], none⟩, ⟨some 18, .alloc 44 2 [.agg [.int .i64 0, .int .i64 0]], [], none⟩, ⟨none, .store 3 true, [.t 16, .t 131], none⟩, ⟨none, .store 3 true, [.t 17, .t 132], none⟩, ⟨none, .store 2 true, [.t 18, .t 134], none⟩]) (.seq (.ops true [(6, 13), (9, 13), (9, 16)] [⟨some 135, .p (.faddr 0), [.t 16], none⟩, ⟨some 136, .p (.faddr 0), [.t 135], none⟩, ⟨some 137, .load 1 false, [.t 136], none⟩, ⟨some 138, .p (.neg), [.t 137], none⟩, ⟨some 139, .p (.faddr 0), [.t 17], none⟩, ⟨some 140, .p (.faddr 0), [.t 139], none⟩, ⟨some 141, .load 1 false, [.t 140], none⟩, ⟨some 142, .p (.neg), [.t 141], none⟩, ⟨some 143, .p (.faddr 0), [.t 18], none⟩, ⟨some 144, .load 1 false, [.t 143], none⟩, ⟨some 145, .p (.neg), [.t 144], none⟩, ⟨some 146, .p (.faddr 0), [.t 16], none⟩, ⟨some 147, .p (.faddr 0), [.t 146], none⟩, ⟨none, .store 1 false, [.t 147, .t 138], none⟩, ⟨some 148, .p (.faddr 0), [.t 17], none⟩, ⟨some 149, .p (.faddr 0), [.t 148], none⟩, ⟨none, .store 1 false, [.t 149, .t 142], none⟩, ⟨some 150, .p (.faddr 0), [.t 18], none⟩, ⟨none, .store 1 false, [.t 150, .t 145], none⟩]) (.seq (.ops false [] [⟨some 152, .load 3 true, [.t 16], none⟩, ⟨some 153, .load 3 true, [.t 17], none⟩, ⟨some 154, .load 2 true, [.t 18], none⟩, ⟨some 155, .call 49, [.t 152, .t 153, .t 154], none⟩, ⟨some 151, .p (.mov), [.t 155], none⟩, ⟨some 156, .p (.ext 0), [.t 151], none⟩, ⟨some 157, .p (.ext 1), [.t 151], none⟩, ⟨some 19, .alloc 95 2 [.agg [.int .i64 0, .int .i64 0]], [], none⟩, ⟨none, .store 2 true, [.t 19, .t 156], none⟩, ⟨some 20, .p (.mov), [.t 157], none⟩]) (.seq (.seq (.ops false [] [⟨some 158, .p (.mov), [.t 20], none⟩, ⟨some 159, .p (.binI .neq), [.t 158, .c (.int .i64 0)], none⟩, ⟨some 160, .p (.mov), [.t 159], none⟩, ⟨some 161, .p (.faddr 1), [.t 19], some (160, false)⟩, ⟨some 162, .load 1 false, [.t 161], some (160, false)⟩, ⟨some 163, .p (.faddr 1), [.t 7], some (160, false)⟩, ⟨some 164, .load 1 false, [.t 163], some (160, false)⟩, ⟨some 165, .p (.binI .neq), [.t 162, .t 164], some (160, false)⟩, ⟨some 166, .p (.pick), [.t 160, .c (.bool true), .t 165], none⟩, ⟨some 167, .p (.mov), [.t 166], none⟩, ⟨some 168, .p (.faddr 0), [.t 19], some (167, false)⟩, ⟨some 169, .load 1 false, [.t 168], some (167, false)⟩, ⟨some 170, .p (.faddr 0), [.t 7], some (167, false)⟩, ⟨some 171, .load 1 false, [.t 170], some (167, false)⟩, ⟨some 172, .p (.neg), [.t 171], some (167, false)⟩, ⟨some 173, .p (.binI .neq), [.t 169, .t 172], some (167, false)⟩, ⟨some 174, .p (.pick), [.t 167, .c (.bool true), .t 173], none⟩]) (.cond (.t 174) (.seq (.ops false [] [⟨some 6, .p (.mov), [.c (.bool false)], none⟩]) (.ret)) (.skip))) (.seq (.ops true [(1, 5), (2, 5), (4, 5), (1, 6), (2, 6), (4, 6), (5, 6), (1, 7), (2, 7), (4, 7), (5, 7), (6, 7), (2, 8), (4, 8), (4, 9)] [⟨some 175, .p (.faddr 0), [.t 3], none⟩, ⟨some 176, .load 3 true, [.t 175], none⟩, ⟨some 177, .load 3 true, [.t 4], none⟩, ⟨some 178, .p (.faddr 3), [.t 3], none⟩, ⟨some 179, .load 2 true, [.t 178], none⟩, ⟨some 21, .alloc 46 3 [.agg [.int .i64 0, .int .i64 0, .int .i64 0]], [], none⟩, ⟨some 22, .alloc 90 3 [.agg [.int .i64 0, .int .i64 0, .int .i64 0]], [], none⟩, ⟨some 23, .alloc 44 2 [.agg [.int .i64 0, .int .i64 0]], [], none⟩, ⟨none, .store 3 true, [.t 21, .t 176], none⟩, ⟨none, .store 3 true, [.t 22, .t 177], none⟩, ⟨none, .store 2 true, [.t 23, .t 179], none⟩]) (.seq (.ops true [(7, 16), (11, 16), (11, 19)] [⟨some 180, .p (.faddr 0), [.t 21], none⟩, ⟨some 181, .p (.faddr 0), [.t 180], none⟩, ⟨some 182, .load 1 false, [.t 181], none⟩, ⟨some 183, .p (.mov), [.t 2], none⟩, ⟨some 184, .p (.binI .add), [.t 182, .t 183], none⟩, ⟨some 185, .p (.faddr 0), [.t 22], none⟩, ⟨some 186, .p (.faddr 0), [.t 185], none⟩, ⟨some 187, .load 1 false, [.t 186], none⟩, ⟨some 188, .p (.mov), [.t 2], none⟩, ⟨some 189, .p (.binI .add), [.t 187, .t 188], none⟩, ⟨some 190, .p (.faddr 0), [.t 23], none⟩, ⟨some 191, .load 1 false, [.t 190], none⟩, ⟨some 192, .p (.mov), [.t 2], none⟩, ⟨some 193, .p (.binI .add), [.t 191, .t 192], none⟩, ⟨some 194, .p (.faddr 0), [.t 21], none⟩, ⟨some 195, .p (.faddr 0), [.t 194], none⟩, ⟨none, .store 1 false, [.t 195, .t 184], none⟩, ⟨some 196, .p (.faddr 0), [.t 22], none⟩, ⟨some 197, .p (.faddr 0), [.t 196], none⟩, ⟨none, .store 1 false, [.t 197, .t 189], none⟩, ⟨some 198, .p (.faddr 0), [.t 23], none⟩, ⟨none, .store 1 false, [.t 198, .t 193], none⟩]) (.seq (.seq (.ops false [] [⟨some 199, .load 3 true, [.t 21], none⟩, ⟨some 200, .call 46, [.t 199], none⟩, ⟨some 201, .p (.binI .neq), [.t 200, .c (.int .i64 0)], none⟩, ⟨some 202, .p (.mov), [.t 201], none⟩, ⟨some 203, .load 3 true, [.t 22], some (202, false)⟩, ⟨some 204, .call 47, [.t 203], some (202, false)⟩, ⟨some 205, .p (.binI .neq), [.t 204, .c (.int .i64 0)], some (202, false)⟩, ⟨some 206, .p (.pick), [.t 202, .c (.bool true), .t 205], none⟩, ⟨some 207, .p (.mov), [.t 206], none⟩, ⟨some 208, .load 2 true, [.t 23], some (207, false)⟩, ⟨some 209, .call 48, [.t 208], some (207, false)⟩, ⟨some 210, .p (.binI .neq), [.t 209, .c (.int .i64 0)], some (207, false)⟩, ⟨some 211, .p (.pick), [.t 207, .c (.bool true), .t 210], none⟩]) (.cond (.t 211) (.seq (.ops false [] [⟨some 6, .p (.mov), [.c (.bool true)], none⟩]) (.ret)) (.skip))) (.seq (.ops false [] [⟨some 213, .load 3 true, [.t 21], none⟩, ⟨some 214, .load 3 true, [.t 22], none⟩, ⟨some 215, .load 2 true, [.t 23], none⟩, ⟨some 216, .call 49, [.t 213, .t 214, .t 215], none⟩, ⟨some 212, .p (.mov), [.t 216], none⟩, ⟨some 217, .p (.ext 0), [.t 212], none⟩, ⟨some 218, .p (.ext 1), [.t 212], none⟩, ⟨some 24, .alloc 95 2 [.agg [.int .i64 0, .int .i64 0]], [], none⟩, ⟨none, .store 2 true, [.t 24, .t 217], none⟩, ⟨some 25, .p (.mov), [.t 218], none⟩]) (.seq (.ops false [] [⟨some 219, .p (.mov), [.t 25], none⟩, ⟨some 220, .p (.binI .eql), [.t 219, .c (.int .i64 0)], none⟩, ⟨some 221, .p (.mov), [.t 220], none⟩, ⟨some 222, .load 2 true, [.t 24], some (221, true)⟩, ⟨some 223, .load 2 true, [.t 7], some (221, true)⟩, ⟨some 224, .p (.eqa false [.i, .i]), [.t 222, .t 223], some (221, true)⟩, ⟨some 225, .p (.pick), [.t 221, .t 224, .c (.bool false)], none⟩, ⟨some 6, .p (.mov), [.t 225], none⟩]) (.ret))))))))))))))))))))
theorem c8 : FnC Try.prog 8 226 a8 [.tmp 6] := ⟨Try.call8, _, _, Try.func8, rfl, by kernel_rfl, by kernel_rfl, rfl⟩
namespace Wa
theorem rn_flip (v : Vo) (s : Su) (p : Pt) : rnV ⟨v.y, v.z, -v.s⟩ s p = -rnV v s p := by
  unfold rnV
  simp only [Int.neg_mul]
theorem rn_at (v : Vo) (s : Su) : rnV v s ⟨v.y, v.z⟩ = 0 := by
  unfold rnV
  simp only [Int.sub_self, Int.zero_mul, Int.mul_zero]
theorem rd_at (v : Vo) (s : Su) : rdV v s ⟨v.y, v.z⟩ = s.c := by
  unfold rdV
  simp only [Int.sub_self, Int.zero_mul, Int.zero_add]
theorem rn_set (v : Vo) (s : Su) : rnV v s ⟨s.y, s.z⟩ = 0 := by
  unfold rnV
  simp only [Int.sub_self, Int.zero_mul, Int.mul_zero]
theorem ng (a b : Int) : -a - -b = -(a - b) := by omega
theorem rn_mir (v : Vo) (s : Su) (p : Pt) : rnV ⟨-v.y, v.z, v.s⟩ ⟨-s.y, s.z, s.c⟩ ⟨-p.y, p.z⟩ = -rnV v s p := by
  unfold rnV
  simp only [ng, Int.neg_mul, Int.mul_neg]
theorem rd_mir (v : Vo) (s : Su) (p : Pt) : rdV ⟨-v.y, v.z, v.s⟩ ⟨-s.y, s.z, s.c⟩ ⟨-p.y, p.z⟩ = rdV v s p := by
  unfold rdV
  simp only [ng, Int.neg_mul_neg]
theorem sh_eq (a b t : Int) : a + t - (b + t) = a - b := by omega
theorem rn_sh (v : Vo) (s : Su) (p : Pt) (t : Int) : rnV ⟨v.y + t, v.z, v.s⟩ ⟨s.y + t, s.z, s.c⟩ ⟨p.y + t, p.z⟩ = rnV v s p := by
  unfold rnV
  simp only [sh_eq]
theorem rd_sh (v : Vo) (s : Su) (p : Pt) (t : Int) : rdV ⟨v.y + t, v.z, v.s⟩ ⟨s.y + t, s.z, s.c⟩ ⟨p.y + t, p.z⟩ = rdV v s p := by
  unfold rdV
  simp only [sh_eq]
theorem raB_of {v : Vo} {s : Su} {p : Pt} (h1 : voR v) (h2 : suR s) (h3 : ptR p) : raB v s p := by
  unfold voR siR at h1
  exact ⟨⟨⟨by omega, h1.1.2⟩, h1.2⟩, h2, h3⟩
set_option maxHeartbeats 8000000 in
theorem k_WakePattern (v : Vo) (s : Su) (p : Pt) (t : Int) : FOk P 8 [.agg [I v.y, I v.z, I v.s, I p.y, I p.z], eSu s, I t] (.bool true) := by
  have z1 := x_rVortexErr v
  have z2 := x_rSetupErr s
  have z3 := x_rPointErr p
  by_cases c1 : voE v = 0
  · have c1' := eq_true c1
    by_cases c2 : suE s = 0
    · have c2' := eq_true c2
      by_cases c3 : ptE p = 0
      · have c3' := eq_true c3
        by_cases c4 : -100 ≤ t ∧ t ≤ 100
        · have c4' := eq_true c4
          have h1 := voE_z c1
          have h2 := suE_z c2
          have h3 : ptR p := unl_zero c3 (by decide)
          have hp2 := h2.1
          have h1' := h1
          have h2' := h2
          have h3' := h3
          unfold voR siR heR at h1'
          unfold suR ptR siR heR at h2'
          unfold ptR siR heR at h3'
          simp only at h2'
          have hra := ra_bd (raB_of h1 h2 h3)
          have hrs := ra_bd (raB_of h1 h2 (show ptR ⟨s.y, s.z⟩ from hp2))
          have w1 : IntKind.wrap .i64 (0 - v.s) = -v.s := by rw [wrap64 (by omega) (by omega)]; omega
          have w2 : IntKind.wrap .i64 (0 - v.y) = -v.y := by rw [wrap64 (by omega) (by omega)]; omega
          have w3 : IntKind.wrap .i64 (0 - s.y) = -s.y := by rw [wrap64 (by omega) (by omega)]; omega
          have w4 : IntKind.wrap .i64 (0 - p.y) = -p.y := by rw [wrap64 (by omega) (by omega)]; omega
          have w5 : IntKind.wrap .i64 (v.y + t) = v.y + t := wrap64 (by omega) (by omega)
          have w6 : IntKind.wrap .i64 (s.y + t) = s.y + t := wrap64 (by omega) (by omega)
          have w7 : IntKind.wrap .i64 (p.y + t) = p.y + t := wrap64 (by omega) (by omega)
          have y1 := x_RadialBy v s p
          rw [rbV_ok h1 h2 h3] at y1
          have y2 : cf_RadialBy [.agg [I v.y, I v.z, I (-v.s)], eSu s, ePt p] = _ := x_RadialBy ⟨v.y, v.z, -v.s⟩ s p
          rw [rbV_ok (v := ⟨v.y, v.z, -v.s⟩) (by unfold voR siR heR; simp only; omega) h2 h3, rn_flip, show rdV ⟨v.y, v.z, -v.s⟩ s p = rdV v s p from rfl, fq_neg] at y2
          have y3 : cf_RadialBy [eVo v, eSu s, .agg [I v.y, I v.z]] = _ := x_RadialBy v s ⟨v.y, v.z⟩
          rw [rbV_ok h1 h2 (show ptR ⟨v.y, v.z⟩ from h1.1), rn_at, rd_at, fq_zero (by omega), show fqV (0, 1) = .tup [.agg [I 0, I 1], I 0] from rfl] at y3
          have y4 : cf_RadialBy [eVo v, eSu s, .agg [I s.y, I s.z]] = _ := x_RadialBy v s ⟨s.y, s.z⟩
          rw [rbV_ok h1 h2 (show ptR ⟨s.y, s.z⟩ from hp2), rn_set, fq_zero hrs.2.1, show fqV (0, 1) = .tup [.agg [I 0, I 1], I 0] from rfl] at y4
          have y5 : cf_RadialBy [.agg [I (-v.y), I v.z, I v.s], .agg [I (-s.y), I s.z, I s.c], .agg [I (-p.y), I p.z]] = _ := x_RadialBy ⟨-v.y, v.z, v.s⟩ ⟨-s.y, s.z, s.c⟩ ⟨-p.y, p.z⟩
          rw [rbV_ok (v := ⟨-v.y, v.z, v.s⟩) (s := ⟨-s.y, s.z, s.c⟩) (p := ⟨-p.y, p.z⟩) (by unfold voR siR heR; simp only; omega) (by unfold suR ptR siR heR; simp only; omega) (by unfold ptR siR heR; simp only; omega), rn_mir, rd_mir, fq_neg] at y5
          have y6 : cf_RadialBy [.agg [I (v.y + t), I v.z, I v.s], .agg [I (s.y + t), I s.z, I s.c], .agg [I (p.y + t), I p.z]] = _ := x_RadialBy ⟨v.y + t, v.z, v.s⟩ ⟨s.y + t, s.z, s.c⟩ ⟨p.y + t, p.z⟩
          have v1 : cf_rVortexErr [.agg [I (v.y + t), I v.z, I v.s]] = _ := x_rVortexErr ⟨v.y + t, v.z, v.s⟩
          have v2 : cf_rSetupErr [.agg [I (s.y + t), I s.z, I s.c]] = _ := x_rSetupErr ⟨s.y + t, s.z, s.c⟩
          have v3 : cf_rPointErr [.agg [I (p.y + t), I p.z]] = _ := x_rPointErr ⟨p.y + t, p.z⟩
          have hsh : voE ⟨v.y + t, v.z, v.s⟩ = 0 → suE ⟨s.y + t, s.z, s.c⟩ = 0 → ptE ⟨p.y + t, p.z⟩ = 0 → rbV ⟨v.y + t, v.z, v.s⟩ ⟨s.y + t, s.z, s.c⟩ ⟨p.y + t, p.z⟩ = fqV (fq (rnV v s p) (rdV v s p)) := fun q1 q2 q3 => by
            rw [rbV_ok (voE_z q1) (suE_z q2) (unl_zero q3 (by decide)), rn_sh, rd_sh]
          have hq1 : ((fq (rnV v s p) (rdV v s p)).1).natAbs ≤ (rnV v s p).natAbs := by
            show ((rnV v s p).tdiv (gcN (rnV v s p) (rdV v s p) : Int)).natAbs ≤ _
            rw [Int.natAbs_tdiv]; exact Nat.div_le_self _ _
          generalize fq (rnV v s p) (rdV v s p) = q at *
          generalize rbV ⟨v.y + t, v.z, v.s⟩ ⟨s.y + t, s.z, s.c⟩ ⟨p.y + t, p.z⟩ = Q at *
          generalize voE ⟨v.y + t, v.z, v.s⟩ = e1 at *
          generalize suE ⟨s.y + t, s.z, s.c⟩ = e2 at *
          generalize ptE ⟨p.y + t, p.z⟩ = e3 at *
          have w8 : IntKind.wrap .i64 (0 - q.1) = -q.1 := by rw [wrap64 (by omega) (by omega)]; omega
          by_cases hs : sz9 q.1
          · have hs2 : sz9 (-q.1) := by unfold sz9 at hs ⊢; omega
            rw [show fqV q = .tup [.agg [I q.1, I q.2], I 0] from if_pos hs] at y1 hsh
            rw [show fqV (-q.1, q.2) = .tup [.agg [I (-q.1), I q.2], I 0] from if_pos hs2] at y2 y5
            by_cases k1 : e1 = 0
            · have k1' := eq_true k1
              by_cases k2 : e2 = 0
              · have k2' := eq_true k2
                by_cases k3 : e3 = 0
                · have k3' := eq_true k3
                  rw [hsh k1 k2 k3] at y6
                  refine c8.fok rfl (Cor.run (addC_good g_Whole (addC_good g_RadialBy (addC_good g_rPointErr (addC_good g_rSetupErr (addC_good g_rVortexErr (addC_good g_Within (addC_good g_awake (noC_good _)))))))) (noHx_good _) hm ?_)
                  simp +contextual -implicitDefEqProofs (maxSteps := 2000000) only [bg_eq, a8, x_awake, x_Within, x_Whole, z1, z2, z3, c1', c2', c3', c4', w1, w2, w3, w4, w5, w6, w7, w8, y1, y2, y3, y4, y5, v1, v2, v3, y6, k1', k2', k3', not_true_eq_false, not_false_eq_true, ne_eq, ruB, rh_no, Int.reduceLT, Int.reduceLE, Int.reduceAdd, Int.reduceSub, Int.reduceMul, Int.reduceNeg, Int.reduceToNat, Int.reduceEq, Int.reduceNe, Int.reduceTDiv, Int.reduceTMod, implies_true, putL, appN, appX, appC, Eng.Fi, reduceCtorEq, exists_eq_left', exists_eq_left, if_true, if_false, List.replicate, Nat.reduceAdd, Nat.reduceSub, Nat.reduceMul, Nat.reduceLeDiff, Nat.reduceLT, Nat.reduceEqDiff]
                · have k3' := eq_false k3
                  refine c8.fok rfl (Cor.run (addC_good g_Whole (addC_good g_RadialBy (addC_good g_rPointErr (addC_good g_rSetupErr (addC_good g_rVortexErr (addC_good g_Within (addC_good g_awake (noC_good _)))))))) (noHx_good _) hm ?_)
                  simp +contextual -implicitDefEqProofs (maxSteps := 2000000) only [bg_eq, a8, x_awake, x_Within, x_Whole, z1, z2, z3, c1', c2', c3', c4', w1, w2, w3, w4, w5, w6, w7, w8, y1, y2, y3, y4, y5, v1, v2, v3, k1', k2', k3', not_true_eq_false, not_false_eq_true, ne_eq, ruB, rh_no, Int.reduceLT, Int.reduceLE, Int.reduceAdd, Int.reduceSub, Int.reduceMul, Int.reduceNeg, Int.reduceToNat, Int.reduceEq, Int.reduceNe, Int.reduceTDiv, Int.reduceTMod, implies_true, putL, appN, appX, appC, Eng.Fi, reduceCtorEq, exists_eq_left', exists_eq_left, if_true, if_false, List.replicate, Nat.reduceAdd, Nat.reduceSub, Nat.reduceMul, Nat.reduceLeDiff, Nat.reduceLT, Nat.reduceEqDiff]
              · have k2' := eq_false k2
                refine c8.fok rfl (Cor.run (addC_good g_Whole (addC_good g_RadialBy (addC_good g_rPointErr (addC_good g_rSetupErr (addC_good g_rVortexErr (addC_good g_Within (addC_good g_awake (noC_good _)))))))) (noHx_good _) hm ?_)
                simp +contextual -implicitDefEqProofs (maxSteps := 2000000) only [bg_eq, a8, x_awake, x_Within, x_Whole, z1, z2, z3, c1', c2', c3', c4', w1, w2, w3, w4, w5, w6, w7, w8, y1, y2, y3, y4, y5, v1, v2, v3, k1', k2', not_true_eq_false, not_false_eq_true, ne_eq, ruB, rh_no, Int.reduceLT, Int.reduceLE, Int.reduceAdd, Int.reduceSub, Int.reduceMul, Int.reduceNeg, Int.reduceToNat, Int.reduceEq, Int.reduceNe, Int.reduceTDiv, Int.reduceTMod, implies_true, putL, appN, appX, appC, Eng.Fi, reduceCtorEq, exists_eq_left', exists_eq_left, if_true, if_false, List.replicate, Nat.reduceAdd, Nat.reduceSub, Nat.reduceMul, Nat.reduceLeDiff, Nat.reduceLT, Nat.reduceEqDiff]
            · have k1' := eq_false k1
              refine c8.fok rfl (Cor.run (addC_good g_Whole (addC_good g_RadialBy (addC_good g_rPointErr (addC_good g_rSetupErr (addC_good g_rVortexErr (addC_good g_Within (addC_good g_awake (noC_good _)))))))) (noHx_good _) hm ?_)
              simp +contextual -implicitDefEqProofs (maxSteps := 2000000) only [bg_eq, a8, x_awake, x_Within, x_Whole, z1, z2, z3, c1', c2', c3', c4', w1, w2, w3, w4, w5, w6, w7, w8, y1, y2, y3, y4, y5, v1, v2, v3, k1', not_true_eq_false, not_false_eq_true, ne_eq, ruB, rh_no, Int.reduceLT, Int.reduceLE, Int.reduceAdd, Int.reduceSub, Int.reduceMul, Int.reduceNeg, Int.reduceToNat, Int.reduceEq, Int.reduceNe, Int.reduceTDiv, Int.reduceTMod, implies_true, putL, appN, appX, appC, Eng.Fi, reduceCtorEq, exists_eq_left', exists_eq_left, if_true, if_false, List.replicate, Nat.reduceAdd, Nat.reduceSub, Nat.reduceMul, Nat.reduceLeDiff, Nat.reduceLT, Nat.reduceEqDiff]
          · rw [show fqV q = .tup [.agg [I 0, I 0], I 8] from if_neg hs] at y1
            refine c8.fok rfl (Cor.run (addC_good g_Whole (addC_good g_RadialBy (addC_good g_rPointErr (addC_good g_rSetupErr (addC_good g_rVortexErr (addC_good g_Within (addC_good g_awake (noC_good _)))))))) (noHx_good _) hm ?_)
            simp +contextual -implicitDefEqProofs (maxSteps := 2000000) only [bg_eq, a8, x_awake, x_Within, x_Whole, z1, z2, z3, c1', c2', c3', c4', y1, not_true_eq_false, not_false_eq_true, ne_eq, ruB, rh_no, Int.reduceLT, Int.reduceLE, Int.reduceAdd, Int.reduceSub, Int.reduceMul, Int.reduceNeg, Int.reduceToNat, Int.reduceEq, Int.reduceNe, Int.reduceTDiv, Int.reduceTMod, implies_true, putL, appN, appX, appC, Eng.Fi, reduceCtorEq, exists_eq_left', exists_eq_left, if_true, if_false, List.replicate, Nat.reduceAdd, Nat.reduceSub, Nat.reduceMul, Nat.reduceLeDiff, Nat.reduceLT, Nat.reduceEqDiff]
        · have c4' := eq_false c4
          refine c8.fok rfl (Cor.run (addC_good g_Whole (addC_good g_RadialBy (addC_good g_rPointErr (addC_good g_rSetupErr (addC_good g_rVortexErr (addC_good g_Within (addC_good g_awake (noC_good _)))))))) (noHx_good _) hm ?_)
          simp +contextual -implicitDefEqProofs (maxSteps := 2000000) only [bg_eq, a8, x_awake, x_Within, x_Whole, z1, z2, z3, c1', c2', c3', c4', not_true_eq_false, not_false_eq_true, ne_eq, ruB, rh_no, Int.reduceLT, Int.reduceLE, Int.reduceAdd, Int.reduceSub, Int.reduceMul, Int.reduceNeg, Int.reduceToNat, Int.reduceEq, Int.reduceNe, Int.reduceTDiv, Int.reduceTMod, implies_true, putL, appN, appX, appC, Eng.Fi, reduceCtorEq, exists_eq_left', exists_eq_left, if_true, if_false, List.replicate, Nat.reduceAdd, Nat.reduceSub, Nat.reduceMul, Nat.reduceLeDiff, Nat.reduceLT, Nat.reduceEqDiff]
      · have c3' := eq_false c3
        refine c8.fok rfl (Cor.run (addC_good g_Whole (addC_good g_RadialBy (addC_good g_rPointErr (addC_good g_rSetupErr (addC_good g_rVortexErr (addC_good g_Within (addC_good g_awake (noC_good _)))))))) (noHx_good _) hm ?_)
        simp +contextual -implicitDefEqProofs (maxSteps := 2000000) only [bg_eq, a8, x_awake, x_Within, x_Whole, z1, z2, z3, c1', c2', c3', not_true_eq_false, not_false_eq_true, ne_eq, ruB, rh_no, Int.reduceLT, Int.reduceLE, Int.reduceAdd, Int.reduceSub, Int.reduceMul, Int.reduceNeg, Int.reduceToNat, Int.reduceEq, Int.reduceNe, Int.reduceTDiv, Int.reduceTMod, implies_true, putL, appN, appX, appC, Eng.Fi, reduceCtorEq, exists_eq_left', exists_eq_left, if_true, if_false, List.replicate, Nat.reduceAdd, Nat.reduceSub, Nat.reduceMul, Nat.reduceLeDiff, Nat.reduceLT, Nat.reduceEqDiff]
    · have c2' := eq_false c2
      refine c8.fok rfl (Cor.run (addC_good g_Whole (addC_good g_RadialBy (addC_good g_rPointErr (addC_good g_rSetupErr (addC_good g_rVortexErr (addC_good g_Within (addC_good g_awake (noC_good _)))))))) (noHx_good _) hm ?_)
      simp +contextual -implicitDefEqProofs (maxSteps := 2000000) only [bg_eq, a8, x_awake, x_Within, x_Whole, z1, z2, z3, c1', c2', not_true_eq_false, not_false_eq_true, ne_eq, ruB, rh_no, Int.reduceLT, Int.reduceLE, Int.reduceAdd, Int.reduceSub, Int.reduceMul, Int.reduceNeg, Int.reduceToNat, Int.reduceEq, Int.reduceNe, Int.reduceTDiv, Int.reduceTMod, implies_true, putL, appN, appX, appC, Eng.Fi, reduceCtorEq, exists_eq_left', exists_eq_left, if_true, if_false, List.replicate, Nat.reduceAdd, Nat.reduceSub, Nat.reduceMul, Nat.reduceLeDiff, Nat.reduceLT, Nat.reduceEqDiff]
  · have c1' := eq_false c1
    refine c8.fok rfl (Cor.run (addC_good g_Whole (addC_good g_RadialBy (addC_good g_rPointErr (addC_good g_rSetupErr (addC_good g_rVortexErr (addC_good g_Within (addC_good g_awake (noC_good _)))))))) (noHx_good _) hm ?_)
    simp +contextual -implicitDefEqProofs (maxSteps := 2000000) only [bg_eq, a8, x_awake, x_Within, x_Whole, z1, z2, z3, c1', not_true_eq_false, not_false_eq_true, ne_eq, ruB, rh_no, Int.reduceLT, Int.reduceLE, Int.reduceAdd, Int.reduceSub, Int.reduceMul, Int.reduceNeg, Int.reduceToNat, Int.reduceEq, Int.reduceNe, Int.reduceTDiv, Int.reduceTMod, implies_true, putL, appN, appX, appC, Eng.Fi, reduceCtorEq, exists_eq_left', exists_eq_left, if_true, if_false, List.replicate, Nat.reduceAdd, Nat.reduceSub, Nat.reduceMul, Nat.reduceLeDiff, Nat.reduceLT, Nat.reduceEqDiff]
theorem arSeen6 {n : Nat} {u : AV} (h : ArG P n 88 u) : ∃ (v : Vo) (p : Pt), u = .agg [I v.y, I v.z, I v.s, I p.y, I p.z] := by
  obtain ⟨us, rfl, hh⟩ := h.agg 6 (ks := [.i, .i, .i, .i, .i]) (by kernel_rfl) (by kernel_rfl)
  simp only [ShV, ShV1] at hh
  obtain ⟨_, _, rfl, ⟨a, rfl, _⟩, _, _, rfl, ⟨b', rfl, _⟩, _, _, rfl, ⟨c, rfl, _⟩, _, _, rfl, ⟨d, rfl, _⟩, _, _, rfl, ⟨e, rfl, _⟩, rfl⟩ := hh
  exact ⟨⟨a, b', c⟩, ⟨d, e⟩, rfl⟩
theorem arSetup {n : Nat} {u : AV} (h : ArG P n 90 u) : ∃ s : Su, u = eSu s := by
  obtain ⟨us, rfl, hh⟩ := h.agg 6 (ks := [.i, .i, .i]) (by kernel_rfl) (by kernel_rfl)
  simp only [ShV, ShV1] at hh
  obtain ⟨_, _, rfl, ⟨a, rfl, _⟩, _, _, rfl, ⟨b', rfl, _⟩, _, _, rfl, ⟨c, rfl, _⟩, rfl⟩ := hh
  exact ⟨⟨a, b', c⟩, rfl⟩
theorem law8 (n0 : Nat) (u0 : AV) (a0 : ArG P n0 88 u0) (n1 : Nat) (u1 : AV) (a1 : ArG P n1 90 u1) (n2 : Nat) (u2 : AV) (a2 : ArG P n2 3 u2) : FOk P 8 [u0, u1, u2] (.bool true) := by
  obtain ⟨v, p, rfl⟩ := arSeen6 a0
  obtain ⟨s, rfl⟩ := arSetup a1
  obtain ⟨t, rfl, _⟩ := arInt a2
  exact k_WakePattern v s p t
end Wa
