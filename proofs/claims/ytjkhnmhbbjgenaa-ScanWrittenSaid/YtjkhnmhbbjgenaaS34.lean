import Derived.Test.YtjkhnmhbbjgenaaEngS9
import Derived.Test.YtjkhnmhbbjgenaaS32
open Go Go.Proofs Eng
set_option maxRecDepth 100000
set_option linter.unusedSimpArgs false
set_option linter.unusedVariables false
def a8 : AC := .seq (.ops false [] [⟨some 2, .box 42 7 1 true, [.t 0], none⟩, ⟨some 4, .p (.mov), [.c (.bool false)], none⟩]) (.seq (.seq (.ops false [] [⟨some 23, .call 15, [], none⟩, ⟨some 24, .p (.notB), [.t 23], none⟩]) (.cond (.t 24) (.seq (.ops false [] [⟨some 4, .p (.mov), [.c (.bool false)], none⟩]) (.ret)) (.skip))) (.seq (.seq (.ops false [] [⟨some 25, .load 7 true, [.t 2], none⟩, ⟨some 26, .call 23, [.t 25], none⟩, ⟨some 27, .p (.notB), [.t 26], none⟩, ⟨some 28, .p (.mov), [.t 27], none⟩, ⟨some 29, .p (.mov), [.t 1], some (28, false)⟩, ⟨some 30, .call 16, [.t 29], some (28, false)⟩, ⟨some 31, .p (.notB), [.t 30], some (28, false)⟩, ⟨some 32, .p (.pick), [.t 28, .c (.bool true), .t 31], none⟩, ⟨some 33, .p (.mov), [.t 32], none⟩, ⟨some 34, .load 7 true, [.t 2], some (33, false)⟩, ⟨some 35, .call 28, [.t 34], some (33, false)⟩, ⟨some 36, .p (.binI .neq), [.t 35, .c (.int .i64 0)], some (33, false)⟩, ⟨some 37, .p (.pick), [.t 33, .c (.bool true), .t 36], none⟩, ⟨some 38, .p (.mov), [.t 37], none⟩, ⟨some 39, .p (.mov), [.t 1], some (38, false)⟩, ⟨some 40, .call 29, [.t 39], some (38, false)⟩, ⟨some 41, .p (.binI .neq), [.t 40, .c (.int .i64 0)], some (38, false)⟩, ⟨some 42, .p (.pick), [.t 38, .c (.bool true), .t 41], none⟩]) (.cond (.t 42) (.seq (.ops false [] [⟨some 4, .p (.mov), [.c (.bool true)], none⟩]) (.ret)) (.skip))) (.seq (.ops false [] [⟨some 44, .p (.mov), [.t 1], none⟩, ⟨some 45, .call 18, [.t 44], none⟩, ⟨some 46, .call 19, [.t 45], none⟩, ⟨some 43, .p (.mov), [.t 46], none⟩, ⟨some 47, .p (.ext 0), [.t 43], none⟩, ⟨some 48, .p (.ext 1), [.t 43], none⟩, ⟨some 5, .p (.mov), [.t 47], none⟩, ⟨some 6, .p (.mov), [.t 48], none⟩]) (.seq (.ops false [] [⟨some 50, .load 7 true, [.t 2], none⟩, ⟨some 51, .call 25, [.t 50], none⟩, ⟨some 52, .p (.mov), [.t 1], none⟩, ⟨some 53, .call 18, [.t 52], none⟩, ⟨some 54, .call 24, [.t 51, .t 53], none⟩, ⟨some 49, .p (.mov), [.t 54], none⟩, ⟨some 55, .p (.ext 0), [.t 49], none⟩, ⟨some 56, .p (.ext 1), [.t 49], none⟩, ⟨some 7, .p (.mov), [.t 55], none⟩, ⟨some 8, .p (.mov), [.t 56], none⟩]) (.seq (.ops false [] [⟨some 58, .load 7 true, [.t 2], none⟩, ⟨some 59, .call 25, [.t 58], none⟩, ⟨some 60, .p (.mov), [.t 1], none⟩, ⟨some 61, .call 18, [.t 60], none⟩, ⟨some 62, .call 26, [.t 59, .t 61], none⟩, ⟨some 57, .p (.mov), [.t 62], none⟩, ⟨some 63, .p (.ext 0), [.t 57], none⟩, ⟨some 64, .p (.ext 1), [.t 57], none⟩, ⟨some 9, .p (.mov), [.t 63], none⟩, ⟨some 10, .p (.mov), [.t 64], none⟩]) (.seq (.seq (.ops false [] [⟨some 65, .p (.mov), [.t 6], none⟩, ⟨some 66, .p (.binI .neq), [.t 65, .c (.int .i64 0)], none⟩, ⟨some 67, .p (.mov), [.t 66], none⟩, ⟨some 68, .p (.mov), [.t 8], some (67, false)⟩, ⟨some 69, .p (.binI .neq), [.t 68, .c (.int .i64 0)], some (67, false)⟩, ⟨some 70, .p (.pick), [.t 67, .c (.bool true), .t 69], none⟩, ⟨some 71, .p (.mov), [.t 70], none⟩, ⟨some 72, .p (.mov), [.t 10], some (71, false)⟩, ⟨some 73, .p (.binI .neq), [.t 72, .c (.int .i64 0)], some (71, false)⟩, ⟨some 74, .p (.pick), [.t 71, .c (.bool true), .t 73], none⟩, ⟨some 75, .p (.mov), [.t 74], none⟩, ⟨some 76, .p (.mov), [.t 5], some (75, false)⟩, ⟨some 77, .p (.lenS), [.t 76], some (75, false)⟩, ⟨some 78, .p (.binI .eql), [.t 77, .c (.int .i64 0)], some (75, false)⟩, ⟨some 79, .p (.pick), [.t 75, .c (.bool true), .t 78], none⟩, ⟨some 80, .p (.mov), [.t 79], none⟩, ⟨some 81, .p (.mov), [.t 5], some (80, false)⟩, ⟨some 82, .p (.lenS), [.t 81], some (80, false)⟩, ⟨some 83, .p (.binI .gtr), [.t 82, .c (.int .i64 60)], some (80, false)⟩, ⟨some 84, .p (.pick), [.t 80, .c (.bool true), .t 83], none⟩, ⟨some 85, .p (.mov), [.t 84], none⟩, ⟨some 86, .p (.mov), [.t 7], some (85, false)⟩, ⟨some 87, .p (.lenS), [.t 86], some (85, false)⟩, ⟨some 88, .p (.mov), [.t 5], some (85, false)⟩, ⟨some 89, .p (.lenS), [.t 88], some (85, false)⟩, ⟨some 90, .p (.binI .neq), [.t 87, .t 89], some (85, false)⟩, ⟨some 91, .p (.pick), [.t 85, .c (.bool true), .t 90], none⟩]) (.cond (.t 91) (.seq (.ops false [] [⟨some 4, .p (.mov), [.c (.bool false)], none⟩]) (.ret)) (.skip))) (.seq (.ops false [] [⟨some 11, .p (.mov), [.c (.nilslice)], none⟩]) (.seq (.seq (.ops false [] [⟨some 12, .p (.mov), [.c (.int .i64 0)], none⟩]) (.block 0 (.loop (.seq (.seq (.ops false [] [⟨some 92, .p (.mov), [.t 12], none⟩, ⟨some 93, .p (.mov), [.t 1], none⟩, ⟨some 94, .p (.lenS), [.t 93], none⟩, ⟨some 95, .p (.binI .lss), [.t 92, .t 94], none⟩]) (.cond (.t 95) (.skip) (.exit 0))) (.seq (.block 1 (.seq (.ops false [] [⟨some 99, .p (.mov), [.t 1], none⟩, ⟨some 100, .p (.mov), [.t 12], none⟩, ⟨some 101, .p (.mov), [.t 12], none⟩, ⟨some 102, .p (.binI .add), [.t 101, .c (.int .i64 1)], none⟩, ⟨some 103, .p (.slc 8 true true false), [.t 99, .t 100, .t 102], none⟩, ⟨some 104, .call 18, [.t 103], none⟩, ⟨some 105, .call 19, [.t 104], none⟩, ⟨some 98, .p (.mov), [.t 105], none⟩, ⟨some 106, .p (.ext 0), [.t 98], none⟩, ⟨some 107, .p (.ext 1), [.t 98], none⟩, ⟨some 13, .p (.mov), [.t 106], none⟩, ⟨some 14, .p (.mov), [.t 107], none⟩]) (.seq (.seq (.ops false [] [⟨some 108, .p (.mov), [.t 14], none⟩, ⟨some 109, .p (.binI .neq), [.t 108, .c (.int .i64 0)], none⟩, ⟨some 110, .p (.mov), [.t 109], none⟩, ⟨some 111, .p (.mov), [.t 13], some (110, false)⟩, ⟨some 112, .p (.lenS), [.t 111], some (110, false)⟩, ⟨some 113, .p (.binI .gtr), [.t 112, .c (.int .i64 60)], some (110, false)⟩, ⟨some 114, .p (.pick), [.t 110, .c (.bool true), .t 113], none⟩]) (.cond (.t 114) (.seq (.ops false [] [⟨some 4, .p (.mov), [.c (.bool false)], none⟩]) (.ret)) (.skip))) (.seq (.seq (.ops false [] [⟨some 115, .p (.mov), [.t 1], none⟩, ⟨some 116, .p (.mov), [.t 12], none⟩, ⟨some 117, .p (.iaddrS 8), [.t 115, .t 116], none⟩, ⟨some 118, .p (.faddr 0), [.t 117], none⟩, ⟨some 119, .load 1 false, [.t 118], none⟩, ⟨some 120, .p (.binI .eql), [.t 119, .c (.int .i64 2)], none⟩]) (.cond (.t 120) (.seq (.ops false [] [⟨some 122, .p (.mov), [.t 1], none⟩, ⟨some 123, .p (.mov), [.t 12], none⟩, ⟨some 124, .p (.iaddrS 8), [.t 122, .t 123], none⟩, ⟨some 125, .p (.faddr 7), [.t 124], none⟩, ⟨some 126, .load 1 false, [.t 125], none⟩, ⟨some 127, .call 18, [.t 126], none⟩, ⟨some 128, .call 19, [.t 127], none⟩, ⟨some 121, .p (.mov), [.t 128], none⟩, ⟨some 129, .p (.ext 0), [.t 121], none⟩, ⟨some 130, .p (.ext 1), [.t 121], none⟩, ⟨some 15, .p (.mov), [.t 129], none⟩, ⟨some 16, .p (.mov), [.t 130], none⟩]) (.seq (.seq (.ops false [] [⟨some 131, .p (.mov), [.t 16], none⟩, ⟨some 132, .p (.binI .neq), [.t 131, .c (.int .i64 0)], none⟩, ⟨some 133, .p (.mov), [.t 132], none⟩, ⟨some 134, .p (.mov), [.t 15], some (133, false)⟩, ⟨some 135, .p (.lenS), [.t 134], some (133, false)⟩, ⟨some 136, .p (.mov), [.t 1], some (133, false)⟩, ⟨some 137, .p (.mov), [.t 12], some (133, false)⟩, ⟨some 138, .p (.iaddrS 8), [.t 136, .t 137], some (133, false)⟩, ⟨some 139, .p (.faddr 6), [.t 138], some (133, false)⟩, ⟨some 140, .load 1 false, [.t 139], some (133, false)⟩, ⟨some 141, .p (.binI .mul), [.t 135, .t 140], some (133, false)⟩, ⟨some 142, .p (.mov), [.t 13], some (133, false)⟩, ⟨some 143, .p (.lenS), [.t 142], some (133, false)⟩, ⟨some 144, .p (.binI .neq), [.t 141, .t 143], some (133, false)⟩, ⟨some 145, .p (.pick), [.t 133, .c (.bool true), .t 144], none⟩]) (.cond (.t 145) (.seq (.ops false [] [⟨some 4, .p (.mov), [.c (.bool false)], none⟩]) (.ret)) (.skip))) (.seq (.ops false [] [⟨some 17, .p (.mov), [.c (.int .i64 0)], none⟩]) (.block 2 (.loop (.seq (.seq (.ops false [] [⟨some 146, .p (.mov), [.t 17], none⟩, ⟨some 147, .p (.mov), [.t 13], none⟩, ⟨some 148, .p (.lenS), [.t 147], none⟩, ⟨some 149, .p (.binI .lss), [.t 146, .t 148], none⟩]) (.cond (.t 149) (.skip) (.exit 2))) (.seq (.block 3 (.seq (.ops true [] [⟨some 152, .p (.mov), [.t 13], none⟩, ⟨some 153, .p (.mov), [.t 17], none⟩, ⟨some 154, .p (.iaddrS 3), [.t 152, .t 153], none⟩, ⟨some 155, .load 3 true, [.t 154], none⟩, ⟨some 156, .p (.mov), [.t 15], none⟩, ⟨some 157, .p (.mov), [.t 17], none⟩, ⟨some 158, .p (.mov), [.t 15], none⟩, ⟨some 159, .p (.lenS), [.t 158], none⟩, ⟨some 160, .call 46, [.t 157, .t 159], none⟩, ⟨some 161, .p (.iaddrS 3), [.t 156, .t 160], none⟩, ⟨some 162, .load 3 true, [.t 161], none⟩, ⟨some 163, .p (.eqa true [.i, .i, .i]), [.t 155, .t 162], none⟩]) (.cond (.t 163) (.seq (.ops false [] [⟨some 4, .p (.mov), [.c (.bool false)], none⟩]) (.ret)) (.skip)))) (.ops false [] [⟨some 150, .p (.mov), [.t 17], none⟩, ⟨some 151, .p (.binI .add), [.t 150, .c (.int .i64 1)], none⟩, ⟨some 17, .p (.mov), [.t 151], none⟩])))))))) (.skip))) (.ops false [] [⟨some 164, .p (.mov), [.t 11], none⟩, ⟨some 165, .p (.mov), [.t 13], none⟩, ⟨some 166, .app 75 3 24, [.t 164, .t 165], none⟩, ⟨some 11, .p (.mov), [.t 166], none⟩]))))) (.ops false [] [⟨some 96, .p (.mov), [.t 12], none⟩, ⟨some 97, .p (.binI .add), [.t 96, .c (.int .i64 1)], none⟩, ⟨some 12, .p (.mov), [.t 97], none⟩])))))) (.seq (.seq (.ops false [] [⟨some 167, .p (.mov), [.t 11], none⟩, ⟨some 168, .p (.mov), [.t 5], none⟩, ⟨some 169, .call 21, [.t 167, .t 168], none⟩, ⟨some 170, .p (.notB), [.t 169], none⟩]) (.cond (.t 170) (.seq (.ops false [] [⟨some 4, .p (.mov), [.c (.bool false)], none⟩]) (.ret)) (.skip))) (.seq (.ops false [] [⟨some 171, .p (.faddr 0), [.t 2], none⟩, ⟨some 172, .load 2 true, [.t 171], none⟩, ⟨some 18, .alloc 37 2 [.agg [.int .i64 0, .int .i64 0]], [], none⟩, ⟨none, .store 2 true, [.t 18, .t 172], none⟩, ⟨some 19, .p (.mov), [.c (.int .i64 0)], none⟩]) (.seq (.seq (.ops false [] [⟨some 20, .p (.mov), [.c (.int .i64 0)], none⟩]) (.block 4 (.loop (.seq (.seq (.ops false [] [⟨some 173, .p (.mov), [.t 20], none⟩, ⟨some 174, .p (.mov), [.t 5], none⟩, ⟨some 175, .p (.lenS), [.t 174], none⟩, ⟨some 176, .p (.binI .lss), [.t 173, .t 175], none⟩]) (.cond (.t 176) (.skip) (.exit 4))) (.seq (.block 5 (.seq (.seq (.ops false [] [⟨some 179, .p (.mov), [.t 5], none⟩, ⟨some 180, .p (.mov), [.t 20], none⟩, ⟨some 181, .p (.iaddrS 3), [.t 179, .t 180], none⟩, ⟨some 182, .p (.faddr 0), [.t 181], none⟩, ⟨some 183, .load 2 true, [.t 182], none⟩, ⟨some 184, .call 44, [.t 183], none⟩, ⟨some 185, .p (.binI .neq), [.t 184, .c (.int .i64 0)], none⟩, ⟨some 186, .p (.mov), [.t 185], none⟩, ⟨some 187, .p (.mov), [.t 5], some (186, false)⟩, ⟨some 188, .p (.mov), [.t 20], some (186, false)⟩, ⟨some 189, .p (.iaddrS 3), [.t 187, .t 188], some (186, false)⟩, ⟨some 190, .p (.faddr 2), [.t 189], some (186, false)⟩, ⟨some 191, .load 1 false, [.t 190], some (186, false)⟩, ⟨some 192, .call 38, [.t 191, .c (.int .i64 0), .c (.int .i64 1000)], some (186, false)⟩, ⟨some 193, .p (.notB), [.t 192], some (186, false)⟩, ⟨some 194, .p (.pick), [.t 186, .c (.bool true), .t 193], none⟩]) (.cond (.t 194) (.seq (.ops false [] [⟨some 4, .p (.mov), [.c (.bool false)], none⟩]) (.ret)) (.skip))) (.seq (.ops true [] [⟨some 196, .load 7 true, [.t 2], none⟩, ⟨some 197, .call 25, [.t 196], none⟩, ⟨some 198, .load 2 true, [.t 18], none⟩, ⟨some 199, .p (.mov), [.t 5], none⟩, ⟨some 200, .p (.mov), [.t 20], none⟩, ⟨some 201, .p (.iaddrS 3), [.t 199, .t 200], none⟩, ⟨some 202, .p (.faddr 0), [.t 201], none⟩, ⟨some 203, .load 2 true, [.t 202], none⟩, ⟨some 204, .call 47, [.t 197, .t 198, .t 203], none⟩, ⟨some 195, .p (.mov), [.t 204], none⟩, ⟨some 205, .p (.ext 0), [.t 195], none⟩, ⟨some 206, .p (.ext 1), [.t 195], none⟩, ⟨some 21, .p (.mov), [.t 205], none⟩, ⟨some 22, .p (.mov), [.t 206], none⟩]) (.seq (.seq (.ops true [] [⟨some 207, .p (.mov), [.t 22], none⟩, ⟨some 208, .p (.binI .neq), [.t 207, .c (.int .i64 0)], none⟩, ⟨some 209, .p (.mov), [.t 208], none⟩, ⟨some 210, .p (.mov), [.t 21], some (209, false)⟩, ⟨some 211, .call 38, [.t 210, .c (.int .i64 0), .c (.int .i64 2000)], some (209, false)⟩, ⟨some 212, .p (.notB), [.t 211], some (209, false)⟩, ⟨some 213, .p (.pick), [.t 209, .c (.bool true), .t 212], none⟩, ⟨some 214, .p (.mov), [.t 213], none⟩, ⟨some 215, .p (.mov), [.t 7], some (214, false)⟩, ⟨some 216, .p (.mov), [.t 20], some (214, false)⟩, ⟨some 217, .p (.iaddrS 4), [.t 215, .t 216], some (214, false)⟩, ⟨some 218, .load 4 true, [.t 217], some (214, false)⟩, ⟨some 219, .p (.mov), [.t 5], some (214, false)⟩, ⟨some 220, .p (.mov), [.t 20], some (214, false)⟩, ⟨some 221, .p (.iaddrS 3), [.t 219, .t 220], some (214, false)⟩, ⟨some 222, .p (.faddr 0), [.t 221], some (214, false)⟩, ⟨some 223, .load 2 true, [.t 222], some (214, false)⟩, ⟨some 224, .p (.mov), [.t 19], some (214, false)⟩, ⟨some 225, .p (.mov), [.t 21], some (214, false)⟩, ⟨some 226, .p (.binI .add), [.t 224, .t 225], some (214, false)⟩, ⟨some 227, .p (.mov), [.t 19], some (214, false)⟩, ⟨some 228, .p (.mov), [.t 21], some (214, false)⟩, ⟨some 229, .p (.binI .add), [.t 227, .t 228], some (214, false)⟩, ⟨some 230, .p (.mov), [.t 5], some (214, false)⟩, ⟨some 231, .p (.mov), [.t 20], some (214, false)⟩, ⟨some 232, .p (.iaddrS 3), [.t 230, .t 231], some (214, false)⟩, ⟨some 233, .p (.faddr 2), [.t 232], some (214, false)⟩, ⟨some 234, .load 1 false, [.t 233], some (214, false)⟩, ⟨some 235, .p (.binI .add), [.t 229, .t 234], some (214, false)⟩, ⟨some 236, .p (.build [.int .i64 0, .int .i64 0] [(0, 1), (1, 1)]), [.t 226, .t 235], some (214, false)⟩, ⟨some 237, .p (.build [.int .i64 0, .int .i64 0, .int .i64 0, .int .i64 0] [(0, 2), (2, 2)]), [.t 223, .t 236], some (214, false)⟩, ⟨some 238, .p (.eqa true [.i, .i, .i, .i]), [.t 218, .t 237], some (214, false)⟩, ⟨some 239, .p (.pick), [.t 214, .c (.bool true), .t 238], none⟩]) (.cond (.t 239) (.seq (.ops false [] [⟨some 4, .p (.mov), [.c (.bool false)], none⟩]) (.ret)) (.skip))) (.ops true [(12, 14)] [⟨some 240, .p (.mov), [.t 5], none⟩, ⟨some 241, .p (.mov), [.t 20], none⟩, ⟨some 242, .p (.iaddrS 3), [.t 240, .t 241], none⟩, ⟨some 243, .p (.faddr 0), [.t 242], none⟩, ⟨some 244, .load 2 true, [.t 243], none⟩, ⟨some 245, .p (.mov), [.t 19], none⟩, ⟨some 246, .p (.mov), [.t 21], none⟩, ⟨some 247, .p (.binI .add), [.t 245, .t 246], none⟩, ⟨some 248, .p (.mov), [.t 5], none⟩, ⟨some 249, .p (.mov), [.t 20], none⟩, ⟨some 250, .p (.iaddrS 3), [.t 248, .t 249], none⟩, ⟨some 251, .p (.faddr 2), [.t 250], none⟩, ⟨some 252, .load 1 false, [.t 251], none⟩, ⟨some 253, .p (.binI .add), [.t 247, .t 252], none⟩, ⟨none, .store 2 true, [.t 18, .t 244], none⟩, ⟨some 19, .p (.mov), [.t 253], none⟩]))))) (.ops false [] [⟨some 177, .p (.mov), [.t 20], none⟩, ⟨some 178, .p (.binI .add), [.t 177, .c (.int .i64 1)], none⟩, ⟨some 20, .p (.mov), [.t 178], none⟩])))))) (.seq (.ops false [] [⟨some 254, .p (.mov), [.t 9], none⟩, ⟨some 255, .p (.mov), [.t 19], none⟩, ⟨some 256, .p (.binI .eql), [.t 254, .t 255], none⟩, ⟨some 4, .p (.mov), [.t 256], none⟩]) (.ret)))))))))))))
theorem c8 : FnC Try.prog 8 257 a8 [.tmp 4] := ⟨Try.call8, _, _, Try.func8, rfl, by kernel_rfl, by kernel_rfl, rfl⟩
namespace Sc
theorem stE_up : ∀ {n : Nat} {s : Sp}, stE n s = 0 → stE (n + 1) s = 0 ∧ stopsOf (n + 1) s = stopsOf n s
  | 0, s, h => by
    have h2 : ¬ s.k = 2 := fun e => by obtain ⟨_, m, hm, _⟩ := stE_rep h e; omega
    have hc := stE_cases 0 s
    have hc' := stE_cases 1 s
    obtain ⟨h0, h1⟩ := stE_frE h
    rw [if_pos h0, if_neg (fun e => h2 e.2)] at hc'
    exact ⟨by rw [hc', h1], by show (if s.k = 2 then _ else oneS s) = oneS s; rw [if_neg h2]⟩
  | n + 1, s, h => by
    obtain ⟨h0, h1⟩ := stE_frE h
    have hc' := stE_cases (n + 1 + 1) s
    rw [if_pos h0] at hc'
    by_cases h2 : s.k = 2
    · obtain ⟨_, m, hm, h3⟩ := stE_rep h h2
      obtain rfl : n = m := by omega
      obtain ⟨h10, hs⟩ := okP_e h3
      have key : ∀ (l : Sps), (∀ t ∈ l, stE n t = 0) → (∀ i, stCg (stE (n + 1)) i l = (0, 0)) ∧ l.flatMap (stopsOf (n + 1)) = l.flatMap (stopsOf n) := by
        intro l
        induction l with
        | nil => intro _; exact ⟨fun _ => rfl, rfl⟩
        | cons t r ih =>
          intro ht
          obtain ⟨a1, a2⟩ := stE_up (ht t (by simp))
          obtain ⟨b1, b2⟩ := ih fun t ht' => ht t (by simp [ht'])
          refine ⟨fun i => ?_, ?_⟩
          · rw [stCg, if_pos a1]; exact b1 _
          · rw [List.flatMap_cons, List.flatMap_cons, a2, b2]
      obtain ⟨k1, k2⟩ := key s.body hs
      have hce : stCe s.body = 0 := by
        unfold okP stCh at h3
        split at h3
        · assumption
        · rename_i hh; exact absurd h3 hh
      refine ⟨?_, ?_⟩
      · rw [hc', if_pos ⟨h1, h2⟩, stR2, stCh, if_pos hce, k1]
      · rw [stopsOf, if_pos h2, stopsOf, if_pos h2, k2]
    · rw [if_neg (fun e => h2 e.2)] at hc'
      exact ⟨by rw [hc', h1], by rw [stopsOf, if_neg h2, stopsOf, if_neg h2]⟩
theorem okP_up {n : Nat} {l : Sps} (h : okP n l) : okP (n + 1) l ∧ stopsAll (n + 1) l = stopsAll n l := by
  obtain ⟨h10, hs⟩ := okP_e h
  have hce : stCe l = 0 := by
    unfold okP stCh at h
    split at h
    · assumption
    · rename_i hh; exact absurd h hh
  have key : ∀ (l : Sps), (∀ t ∈ l, stE n t = 0) → (∀ i, stCg (stE (n + 1)) i l = (0, 0)) ∧ l.flatMap (stopsOf (n + 1)) = l.flatMap (stopsOf n) := by
    intro l
    induction l with
    | nil => intro _; exact ⟨fun _ => rfl, rfl⟩
    | cons t r ih =>
      intro ht
      obtain ⟨a1, a2⟩ := stE_up (ht t (by simp))
      obtain ⟨b1, b2⟩ := ih fun t ht' => ht t (by simp [ht'])
      refine ⟨fun i => ?_, ?_⟩
      · rw [stCg, if_pos a1]; exact b1 _
      · rw [List.flatMap_cons, List.flatMap_cons, a2, b2]
  obtain ⟨k1, k2⟩ := key l hs
  exact ⟨by unfold okP stCh; rw [if_pos hce, k1], k2⟩
theorem wsum_up {g g' : Sps → Option Nat} (hg : ∀ l, (g l).isSome = true → (g' l).isSome = true) : ∀ {l : Sps} {n n' : Nat}, (wsum g n l).isSome = true → (wsum g' n' l).isSome = true
  | [], _, _, _ => rfl
  | s :: r, n, n', h => by
    rw [wsum] at h ⊢
    split at h
    · rename_i k hk
      have := hg s.body (by rw [hk]; rfl)
      cases hk' : g' s.body with
      | none => rw [hk'] at this; cases this
      | some k' => exact wsum_up hg h
    · cases h
theorem wgh_up : ∀ {f : Nat} {l : Sps}, (wgh f l).isSome = true → (wgh (f + 1) l).isSome = true
  | 0, l, h => by cases h
  | f + 1, l, h => by
    rw [wgh] at h ⊢
    split at h
    · rename_i h12; rw [if_pos h12]; exact wsum_up (fun l h => wgh_up h) h
    · cases h
theorem repL_get (w : List St) (hw : 0 < w.length) : ∀ (k j : Nat), j < k * w.length → (repL w k)[j]? = w[j % w.length]?
  | 0, j, h => by simp at h
  | k + 1, j, h => by
    rw [repL]
    rw [Nat.add_mul, Nat.one_mul] at h
    by_cases hj : j < w.length
    · rw [List.getElem?_append_left hj, Nat.mod_eq_of_lt hj]
    · rw [List.getElem?_append_right (by omega), repL_get w hw k (j - w.length) (by omega), Nat.mod_eq_sub_mod (a := j) (by omega)]
theorem ckC_one {l : Sps} (h : okP 2 l) (h60 : (stopsAll 2 l).length ≤ 60) : (ckC l).2 = 0 := by
  unfold ckC
  have h' : (stCh (stE 2) l).2 = 0 := h
  rw [if_pos h', unl_t 8 (by omega)]
def S8a (h : Hd) (l : Sps) (ss : List St) (vs : List Vi) (n : Int) (p : Nat × List St) : AState := ⟨[.any, .vs (eSps l), .ptr 0 7 0 0, .any, .any, .vs (ss.map eSt), .any, .vs (vs.map eVi), .any, I n, .any, oA p.2, I p.1, .any, .any, .any, .any, .any, .any, .any, .any, .any, .any, .any, .any, .any, .any, .any, .any, .any, .any, .any, .any, .any, .any, .any, .any, .any, .any, .any, .any, .any, .any, .any, .any, .any, .any, .any, .any, .any, .any, .any, .any, .any, .any, .any, .any, .any, .any, .any, .any, .any, .any, .any, .any, .any, .any, .any, .any, .any, .any, .any, .any, .any, .any, .any, .any, .any, .any, .any, .any, .any, .any, .any, .any, .any, .any, .any, .any, .any, .any, .any, .any, .any, .any, .any, .any, .any, .any, .any, .any, .any, .any, .any, .any, .any, .any, .any, .any, .any, .any, .any, .any, .any, .any, .any, .any, .any, .any, .any, .any, .any, .any, .any, .any, .any, .any, .any, .any, .any, .any, .any, .any, .any, .any, .any, .any, .any, .any, .any, .any, .any, .any, .any, .any, .any, .any, .any, .any, .any, .any, .any, .any, .any, .any, .any, .any, .any, .any, .any, .any, .any, .any, .any, .any, .any, .any, .any, .any, .any, .any, .any, .any, .any, .any, .any, .any, .any, .any, .any, .any, .any, .any, .any, .any, .any, .any, .any, .any, .any, .any, .any, .any, .any, .any, .any, .any, .any, .any, .any, .any, .any, .any, .any, .any, .any, .any, .any, .any, .any, .any, .any, .any, .any, .any, .any, .any, .any, .any, .any, .any, .any, .any, .any, .any, .any, .any, .any, .any, .any, .any, .any, .any, .any, .any, .any, .any, .any, .any, .any, .any, .any, .any, .any, .any, .any, .any, .any, .any, .any, .any, .any, .any, .any, .any, .any, .any], oH p.2 ++ [⟨0, 0, .rows 42 7 [eHd h]⟩], 2⟩
def S8b (h : Hd) (l : Sps) (ss : List St) (vs : List Vi) (n : Int) (o own w : List St) (i j : Nat) : AState := ⟨[.any, .vs (eSps l), .ptr 0 7 0 0, .any, .any, .vs (ss.map eSt), .any, .vs (vs.map eVi), .any, I n, .any, oA o, I i, .vs (own.map eSt), .any, .vs (w.map eSt), .any, I j, .any, .any, .any, .any, .any, .any, .any, .any, .any, .any, .any, .any, .any, .any, .any, .any, .any, .any, .any, .any, .any, .any, .any, .any, .any, .any, .any, .any, .any, .any, .any, .any, .any, .any, .any, .any, .any, .any, .any, .any, .any, .any, .any, .any, .any, .any, .any, .any, .any, .any, .any, .any, .any, .any, .any, .any, .any, .any, .any, .any, .any, .any, .any, .any, .any, .any, .any, .any, .any, .any, .any, .any, .any, .any, .any, .any, .any, .any, .any, .any, .any, .any, .any, .any, .any, .any, .any, .any, .any, .any, .any, .any, .any, .any, .any, .any, .any, .any, .any, .any, .any, .any, .any, .any, .any, .any, .any, .any, .any, .any, .any, .any, .any, .any, .any, .any, .any, .any, .any, .any, .any, .any, .any, .any, .any, .any, .any, .any, .any, .any, .any, .any, .any, .any, .any, .any, .any, .any, .any, .any, .any, .any, .any, .any, .any, .any, .any, .any, .any, .any, .any, .any, .any, .any, .any, .any, .any, .any, .any, .any, .any, .any, .any, .any, .any, .any, .any, .any, .any, .any, .any, .any, .any, .any, .any, .any, .any, .any, .any, .any, .any, .any, .any, .any, .any, .any, .any, .any, .any, .any, .any, .any, .any, .any, .any, .any, .any, .any, .any, .any, .any, .any, .any, .any, .any, .any, .any, .any, .any, .any, .any, .any, .any, .any, .any, .any, .any, .any, .any, .any, .any, .any, .any, .any, .any, .any, .any, .any, .any, .any, .any, .any, .any, .any, .any, .any, .any, .any, .any], oH o ++ [⟨0, 0, .rows 42 7 [eHd h]⟩], 2⟩
def S8c (h : Hd) (ss : List St) (vs : List Vi) (n : Int) (p : Nat × Int × Dr) : AState := ⟨[.any, .any, .ptr 0 7 0 0, .any, .any, .vs (ss.map eSt), .any, .vs (vs.map eVi), .any, I n, .any, .any, .any, .any, .any, .any, .any, .any, .ptr 1 2 0 0, I p.2.1, I p.1, .any, .any, .any, .any, .any, .any, .any, .any, .any, .any, .any, .any, .any, .any, .any, .any, .any, .any, .any, .any, .any, .any, .any, .any, .any, .any, .any, .any, .any, .any, .any, .any, .any, .any, .any, .any, .any, .any, .any, .any, .any, .any, .any, .any, .any, .any, .any, .any, .any, .any, .any, .any, .any, .any, .any, .any, .any, .any, .any, .any, .any, .any, .any, .any, .any, .any, .any, .any, .any, .any, .any, .any, .any, .any, .any, .any, .any, .any, .any, .any, .any, .any, .any, .any, .any, .any, .any, .any, .any, .any, .any, .any, .any, .any, .any, .any, .any, .any, .any, .any, .any, .any, .any, .any, .any, .any, .any, .any, .any, .any, .any, .any, .any, .any, .any, .any, .any, .any, .any, .any, .any, .any, .any, .any, .any, .any, .any, .any, .any, .any, .any, .any, .any, .any, .any, .any, .any, .any, .any, .any, .any, .any, .any, .any, .any, .any, .any, .any, .any, .any, .any, .any, .any, .any, .any, .any, .any, .any, .any, .any, .any, .any, .any, .any, .any, .any, .any, .any, .any, .any, .any, .any, .any, .any, .any, .any, .any, .any, .any, .any, .any, .any, .any, .any, .any, .any, .any, .any, .any, .any, .any, .any, .any, .any, .any, .any, .any, .any, .any, .any, .any, .any, .any, .any, .any, .any, .any, .any, .any, .any, .any, .any, .any, .any, .any, .any, .any, .any, .any, .any, .any, .any, .any, .any, .any, .any, .any, .any, .any, .any, .any, .any, .any, .any, .any, .any], [⟨1, 1, .rows 37 2 [eDr p.2.2]⟩, ⟨0, 0, .rows 42 7 [eHd h]⟩], 2⟩
set_option maxHeartbeats 4000000 in
theorem k_ScanWritten (h : Hd) (l : Sps) : FOk P 8 [eHd h, .vs (eSps l)] (.bool true) := by
  by_cases h8 : (h.res.length : Int) ≤ 8
  · have yf := x_Few l
    by_cases hf : fewB l = true
    · rw [hf] at yf
      have hl : h.res.length ≤ 1000 := by omega
      have hl' : h.res.length ≤ 1099511627776 := by omega
      have y4 := x_rHeadErr h (by simp only [hl])
      have y5 := x_rStepsErr l
      by_cases c2 : hdE h = 0
      · by_cases c1 : (ckC l).2 = 0
        · have h0 : vsE h l = 0 := by rw [vsE_val, if_pos c2, c1]
          obtain ⟨r1, r2, r3⟩ := runs_ok h0
          obtain ⟨hk, h60⟩ := ckC_ok c1
          have hpos := ckC_pos c1
          obtain ⟨h10, hse⟩ := okP_e hk
          have hwg := few_wgh hf
          have hwm := (wgh_mem hwg).2
          have yh := x_CopyHead h (by simp only [hl])
          have yc := x_Copy 5 l hwg
          have y1 := x_Compiled l
          have y2 := x_VisitsOf h l (by simp only [hl'])
          have y3 := x_DurationOf h l (by simp only [hl'])
          obtain ⟨x, hx1, hx2⟩ := vsL_last h0
          rw [cmV, if_pos c1] at y1
          rw [vsV, if_pos h0] at y2
          rw [duV, if_pos h0, hx2] at y3
          have hlen : (vsL h l).length = (stopsAll 2 l).length := visL_len h _ _ _
          have hvs : vsL h l = visL h 0 h.home (stopsAll 2 l) := rfl
          have hsa : ∀ i, (stopsAll 2 (l.drop i)) = (stopsAll 2 (l.drop i)) := fun _ => rfl
          have y9 := x_rSameStops (stopsAll 2 l) (stopsAll 2 l) (by simp only [eq_iff_iff, iff_true]; omega)
          rw [decide_eq_true rfl] at y9
          have hss : stopsAll 2 l = stopsAll 2 l := rfl
          generalize hS : stopsAll 2 l = ss at *
          generalize vsL h l = vs at *
          have g0 : ((ss.length : Int) = 0) = False := by simp only [eq_iff_iff, iff_false]; omega
          have g1 : (60 < (ss.length : Int)) = False := by simp only [eq_iff_iff, iff_false]; omega
          have g2 : ((vs.length : Int) = (ss.length : Int)) = True := by simp only [eq_iff_iff, iff_true]; omega
          refine c8.fok (by simp only [free_Hs, subs, sub1, free_Se, free_Sps]) (Cor.run (addC_good (g_Copy 5) (addC_good g_rSameStops (addC_good g_Mod (addC_good g_rDirectionErr (addC_good g_MoveTicks (addC_good g_Within (addC_good g_rStepsErr (addC_good g_rHeadErr (addC_good g_DurationOf (addC_good g_VisitsOf (addC_good g_Compiled (addC_good g_CopyHead (addC_good g_Few (addC_good g_few (addC_good g_awake (noC_good _)))))))))))))))) (noHx_good _) hm ?_)
          simp +contextual -implicitDefEqProofs (maxSteps := 2000000) only [bg_eq, a8, nz0, x_awake, x_few, yh, yf, yc, y1, y2, y3, y4, y5, h8, c1, c2, g0, g1, g2, free_St, free_Vi, List.length_map, not_true_eq_false, not_false_eq_true, ne_eq, ruB, rh_no, Int.reduceLT, Int.reduceLE, Int.reduceAdd, Int.reduceSub, Int.reduceMul, Int.reduceNeg, Int.reduceToNat, Int.reduceEq, Int.reduceNe, Int.reduceTDiv, Int.reduceTMod, implies_true, putL, appN, appX, appC, Eng.Fi, reduceCtorEq, exists_eq_left', exists_eq_left, if_true, if_false, List.replicate, Nat.reduceAdd, Nat.reduceSub, Nat.reduceMul, Nat.reduceLeDiff, Nat.reduceLT, Nat.reduceEqDiff]
          refine Cor.lp (addC_good (g_Copy 5) (addC_good g_rSameStops (addC_good g_Mod (addC_good g_rDirectionErr (addC_good g_MoveTicks (addC_good g_Within (addC_good g_rStepsErr (addC_good g_rHeadErr (addC_good g_DurationOf (addC_good g_VisitsOf (addC_good g_Compiled (addC_good g_CopyHead (addC_good g_Few (addC_good g_few (addC_good g_awake (noC_good _)))))))))))))))) (noHx_good _) hm (S8a h l ss vs x.to) (fun p => p.1 ≤ l.length ∧ ss = p.2 ++ stopsAll 2 (l.drop p.1)) (fun p => l.length - p.1) (a := (0, [])) ⟨Nat.zero_le _, hS.symm⟩ (Wkn.to ⟨0, [(0, 0)], [], 2, [1, 2, 5, 7, 9, 11, 12]⟩ rfl rfl (by simp [Wk.st, keepT, memN, Wk.fate, Wk.fate0, assoc, getE, Wk.hp, ABlk.sub, sub1, subs, S8a, oA, oH, free_Se, free_St, free_Vi, free_Sps])) ?_
          rintro f ⟨i, o⟩ ⟨hi, hfo⟩ go
          simp only at hi hfo
          have frO := fun φ => free_St φ o
          rcases Nat.lt_or_ge i l.length with hlt | hlt
          · have e1 : decide ((i : Int) < (l.length : Int)) = true := lt_t hlt
            have e2 := eSps_get l hlt
            have e3 : IntKind.wrap .i64 ((i : Int) + 1) = ((i + 1 : Nat) : Int) := suc_w (by omega)
            have hs0 := hse l[i] (by simp)
            have hw0 := hwm l[i] (by simp)
            have hsl : ((eSps l).drop i).take (i + 1 - i) = eSps [l[i]] := by
              rw [eSps_map, eSps_map, List.drop_eq_getElem_cons (by simpa using hlt), show i + 1 - i = 1 by omega, List.take_succ_cons, List.take_zero]; simp
            have al : ((eSps l).all fun v => decide (v.cells.length = 8)) = true := by
              rw [eSps_map, List.all_map, List.all_eq_true]
              intro s _
              cases s; simp [eSp, AV.cells]
            have b0 : ((i : Int) ≤ ((i + 1 : Nat) : Int)) = True := by simp only [eq_iff_iff, iff_true]; omega
            have b1 : (i + 1 ≤ l.length) = True := by simp only [eq_iff_iff, iff_true]; omega
            rw [List.drop_eq_getElem_cons hlt] at hfo
            have hsa : stopsAll 2 (l[i] :: l.drop (i + 1)) = stopsOf 2 l[i] ++ stopsAll 2 (l.drop (i + 1)) := List.flatMap_cons
            rw [hsa] at hfo
            clear hsa
            generalize l[i] = s at *
            generalize hrest : stopsAll 2 (l.drop (i + 1)) = rest at hfo
            have ho1 : okP 2 [s] := okP_one hs0
            have hso : stopsAll 2 [s] = stopsOf 2 s := by rw [stopsAll, List.flatMap_cons, List.flatMap_nil, List.append_nil]
            have hown : (stopsOf 2 s).length ≤ 60 := by rw [hfo] at h60; simp only [List.length_append] at h60; omega
            have hop := stopsOf_pos 2 s hs0
            have hc1 := ckC_one ho1 (by rw [hso]; exact hown)
            have z1 := x_Compiled [s]
            rw [cmV, if_pos hc1, hso] at z1
            have hwg1 : (wgh 5 [s]).isSome = true := by
              rw [wgh, if_pos (show [s].length ≤ 12 by simp), wsum]
              cases hq : wgh 4 s.body with
              | none => rw [hq] at hw0; cases hw0
              | some k => rfl
            have z0 := x_Copy 5 [s] hwg1
            have hol : o.length + (stopsOf 2 s).length ≤ 60 := by rw [hfo] at h60; simp only [List.length_append] at h60; omega
            have hf2 : ss = (o ++ stopsOf 2 s) ++ rest := by rw [hfo, List.append_assoc]
            have frW := fun φ => free_St φ (stopsOf 2 s)
            have u1 : (60 < ((stopsOf 2 s).length : Int)) = False := by simp only [eq_iff_iff, iff_false]; omega
            have m0 : (((stopsOf 2 s).map eSt).all fun v => decide (v.cells.length = 3)) = true := by simp [List.all_map, AV.cells]
            have m1 : (o.length + (stopsOf 2 s).length ≤ maxLen) = True := mx (by omega)
            have m2 : ((o.length + (stopsOf 2 s).length) * 24 ≤ 140737488355328) = True := by simp only [eq_iff_iff, iff_true]; omega
            have hw1 : ((stopsOf 2 s).length = 0) = False := by simp only [eq_iff_iff, iff_false]; omega
            by_cases hk2 : s.k = 2
            · obtain ⟨⟨v1, v2⟩, m, hmm, hm1⟩ := stE_rep hs0 hk2
              obtain rfl : m = 1 := by omega
              obtain ⟨ho2, hs2⟩ := okP_up hm1
              have hrep : stopsOf 2 s = repL (stopsAll 2 s.body) s.x5.toNat := by rw [hs2, stopsOf, if_pos hk2]; rfl
              have hrl : (stopsOf 2 s).length = s.x5.toNat * (stopsAll 2 s.body).length := by rw [hrep, repL_len]
              have hbp := stopsAll_pos ho2
              have hb60 : (stopsAll 2 s.body).length ≤ 60 := by
                obtain ⟨q, hq⟩ : ∃ q, s.x5.toNat = q + 1 := ⟨s.x5.toNat - 1, by omega⟩
                rw [hq, Nat.add_mul] at hrl; omega
              have hc3 := ckC_one ho2 hb60
              have z2 := x_Compiled s.body
              rw [cmV, if_pos hc3] at z2
              have z3 := x_Copy 5 s.body (wgh_up hw0)
              have hget := repL_get (stopsAll 2 s.body) hbp s.x5.toNat
              rw [← hrep, ← hrl] at hget
              obtain ⟨k, ⟨az, el⟩, x2, x3, x4, x5, b⟩ := s
              simp only [Sp.k] at hk2
              subst hk2
              simp only [Sp.x5, Sp.body] at v1 v2 hrl z2 z3 hget hbp hb60
              simp only [eSp] at e2
              generalize stopsAll 2 b = w at *
              generalize stopsOf 2 (.mk 2 ⟨az, el⟩ x2 x3 x4 x5 b) = own at *
              have hx : ((x5.toNat : Nat) : Int) = x5 := Int.toNat_of_nonneg (by omega)
              have hmul : (w.length : Int) * x5 = (own.length : Int) := by rw [hrl, Int.natCast_mul, hx, Int.mul_comm]
              have w1 : IntKind.wrap .i64 ((w.length : Int) * x5) = (own.length : Int) := by rw [hmul]; exact wrap64 (by omega) (by omega)
              have frB := fun φ => free_St φ w
              cases o with
              | nil =>
                simp +contextual -implicitDefEqProofs (maxSteps := 2000000) only [S8a, oA, oH, nz0, e1, e2, e3, eSps_len, b0, b1, al, hsl, z0, z1, z2, z3, u1, w1, free_St, List.length_map, not_true_eq_false, not_false_eq_true, ne_eq, ruB, rh_no, Int.reduceLT, Int.reduceLE, Int.reduceAdd, Int.reduceSub, Int.reduceMul, Int.reduceNeg, Int.reduceToNat, Int.reduceEq, Int.reduceNe, Int.reduceTDiv, Int.reduceTMod, implies_true, putL, appN, appX, appC, Eng.Fi, reduceCtorEq, exists_eq_left', exists_eq_left, if_true, if_false, List.replicate, Nat.reduceAdd, Nat.reduceSub, Nat.reduceMul, Nat.reduceLeDiff, Nat.reduceLT, Nat.reduceEqDiff]
                refine Cor.lp (addC_good (g_Copy 5) (addC_good g_rSameStops (addC_good g_Mod (addC_good g_rDirectionErr (addC_good g_MoveTicks (addC_good g_Within (addC_good g_rStepsErr (addC_good g_rHeadErr (addC_good g_DurationOf (addC_good g_VisitsOf (addC_good g_Compiled (addC_good g_CopyHead (addC_good g_Few (addC_good g_few (addC_good g_awake (noC_good _)))))))))))))))) (noHx_good _) hm (S8b h l ss vs x.to [] own w i) (fun j => j ≤ own.length) (fun j => own.length - j) (a := 0) (Nat.zero_le _) ?_ ?_
                · simp only [List.map_cons, List.map_nil, subs, List.cons.injEq] at frO
                  exact Wkn.to ⟨0, [(0, 0), (1, 1)], [], 2, [1, 2, 5, 7, 9, 11, 12, 13, 15, 17]⟩ rfl rfl (by simp [Wk.st, keepT, memN, Wk.fate, Wk.fate0, assoc, getE, Wk.hp, ABlk.sub, sub1, subs, S8b, oA, oH, free_Se, free_St, free_Vi, free_Sps, frO])
                intro f2 j hj go2
                rcases Nat.lt_or_ge j own.length with hjl | hjl
                · have q1 : decide ((j : Int) < (own.length : Int)) = true := lt_t hjl
                  have q2 : (own.map eSt)[j]? = some (eSt own[j]) := get_e eSt own hjl
                  have q3 : IntKind.wrap .i64 ((j : Int) + 1) = ((j + 1 : Nat) : Int) := suc_w (by omega)
                  have q4 := hget j hjl
                  rw [List.getElem?_eq_getElem hjl] at q4
                  have q5 := x_Mod j w.length (by simp only [eq_iff_iff, iff_true]; omega)
                  have q6 : ((j : Int) % (w.length : Int)) = ((j % w.length : Nat) : Int) := by simp
                  rw [q6] at q5
                  have q7 : (w.map eSt)[j % w.length]? = some (eSt own[j]) := by rw [List.getElem?_map, ← q4]; rfl
                  generalize own[j] = sj at *
                  generalize j % w.length = jm at *
                  simp +contextual -implicitDefEqProofs (maxSteps := 2000000) only [S8b, oA, oH, nz0, q1, q2, q3, q5, q7, List.length_map, Int.natCast_nonneg, Int.toNat_natCast, not_true_eq_false, not_false_eq_true, and_self, ne_eq, ruB, rh_no, Int.reduceLT, Int.reduceLE, Int.reduceAdd, Int.reduceSub, Int.reduceMul, Int.reduceNeg, Int.reduceToNat, Int.reduceEq, Int.reduceNe, Int.reduceTDiv, Int.reduceTMod, implies_true, putL, appN, appX, appC, Eng.Fi, reduceCtorEq, exists_eq_left', exists_eq_left, if_true, if_false, List.replicate, Nat.reduceAdd, Nat.reduceSub, Nat.reduceMul, Nat.reduceLeDiff, Nat.reduceLT, Nat.reduceEqDiff]
                  simp only [List.map_cons, List.map_nil, subs, List.cons.injEq] at frO
                  exact go2 _ (j + 1) hjl (by omega) (Wkn.to ⟨0, [(0, 0), (1, 1)], [], 2, [1, 2, 5, 7, 9, 11, 12, 13, 15, 17]⟩ rfl rfl (by simp [Wk.st, keepT, memN, Wk.fate, Wk.fate0, assoc, getE, Wk.hp, ABlk.sub, sub1, subs, S8b, oA, oH, free_Se, free_St, free_Vi, free_Sps, frO]))
                · have q1 : decide ((j : Int) < (own.length : Int)) = false := lt_f hjl
                  cases own with
                  | nil => simp at hop
                  | cons w0 wr =>
                    simp only [List.length_nil, List.length_cons, Nat.zero_add] at m1 m2
                    simp only [List.map_cons, List.map_nil, subs, List.cons.injEq] at frO frW
                    simp only [List.map_cons] at m0
                    simp only [List.length_cons] at q1
                    simp +contextual -implicitDefEqProofs (maxSteps := 2000000) only [S8b, oA, oH, nz0, q1, e3, rs_nil, rs_t, rs_f, ag_nils, ag_sl, ag_vs, ag_str, ag_ptr, ag_nilp, ag_vp, ag_fun, m0, m1, m2, List.map_cons, List.length_map, ruB, rh_no, Int.reduceLT, Int.reduceLE, Int.reduceAdd, Int.reduceSub, Int.reduceMul, Int.reduceNeg, Int.reduceToNat, Int.reduceEq, Int.reduceNe, Int.reduceTDiv, Int.reduceTMod, implies_true, putL, appN, appX, appC, Eng.Fi, reduceCtorEq, exists_eq_left', exists_eq_left, if_true, if_false, List.replicate, Nat.reduceAdd, Nat.reduceSub, Nat.reduceMul, Nat.reduceLeDiff, Nat.reduceLT, Nat.reduceEqDiff]
                    refine go _ (i + 1, [] ++ w0 :: wr) ⟨hlt, by simp only; rw [hrest]; exact hf2⟩ (by simp only; omega) (Wkn.to ⟨0, [(0, 0), (2, 1)], [], 2, [1, 2, 5, 7, 9, 11, 12]⟩ rfl rfl ?_)
                    simp [Wk.st, keepT, memN, Wk.fate, Wk.fate0, assoc, getE, Wk.hp, ABlk.sub, sub1, subs, S8a, oA, oH, free_Se, free_St, free_Vi, free_Sps, subs_append, frO, frW] <;> omega
                
              | cons x0 r0 =>
                simp +contextual -implicitDefEqProofs (maxSteps := 2000000) only [S8a, oA, oH, nz0, e1, e2, e3, eSps_len, b0, b1, al, hsl, z0, z1, z2, z3, u1, w1, free_St, List.length_map, not_true_eq_false, not_false_eq_true, ne_eq, ruB, rh_no, Int.reduceLT, Int.reduceLE, Int.reduceAdd, Int.reduceSub, Int.reduceMul, Int.reduceNeg, Int.reduceToNat, Int.reduceEq, Int.reduceNe, Int.reduceTDiv, Int.reduceTMod, implies_true, putL, appN, appX, appC, Eng.Fi, reduceCtorEq, exists_eq_left', exists_eq_left, if_true, if_false, List.replicate, Nat.reduceAdd, Nat.reduceSub, Nat.reduceMul, Nat.reduceLeDiff, Nat.reduceLT, Nat.reduceEqDiff]
                refine Cor.lp (addC_good (g_Copy 5) (addC_good g_rSameStops (addC_good g_Mod (addC_good g_rDirectionErr (addC_good g_MoveTicks (addC_good g_Within (addC_good g_rStepsErr (addC_good g_rHeadErr (addC_good g_DurationOf (addC_good g_VisitsOf (addC_good g_Compiled (addC_good g_CopyHead (addC_good g_Few (addC_good g_few (addC_good g_awake (noC_good _)))))))))))))))) (noHx_good _) hm (S8b h l ss vs x.to (x0 :: r0) own w i) (fun j => j ≤ own.length) (fun j => own.length - j) (a := 0) (Nat.zero_le _) ?_ ?_
                · simp only [List.map_cons, List.map_nil, subs, List.cons.injEq] at frO
                  exact Wkn.to ⟨0, [(0, 0), (1, 1)], [], 2, [1, 2, 5, 7, 9, 11, 12, 13, 15, 17]⟩ rfl rfl (by simp [Wk.st, keepT, memN, Wk.fate, Wk.fate0, assoc, getE, Wk.hp, ABlk.sub, sub1, subs, S8b, oA, oH, free_Se, free_St, free_Vi, free_Sps, frO])
                intro f2 j hj go2
                rcases Nat.lt_or_ge j own.length with hjl | hjl
                · have q1 : decide ((j : Int) < (own.length : Int)) = true := lt_t hjl
                  have q2 : (own.map eSt)[j]? = some (eSt own[j]) := get_e eSt own hjl
                  have q3 : IntKind.wrap .i64 ((j : Int) + 1) = ((j + 1 : Nat) : Int) := suc_w (by omega)
                  have q4 := hget j hjl
                  rw [List.getElem?_eq_getElem hjl] at q4
                  have q5 := x_Mod j w.length (by simp only [eq_iff_iff, iff_true]; omega)
                  have q6 : ((j : Int) % (w.length : Int)) = ((j % w.length : Nat) : Int) := by simp
                  rw [q6] at q5
                  have q7 : (w.map eSt)[j % w.length]? = some (eSt own[j]) := by rw [List.getElem?_map, ← q4]; rfl
                  generalize own[j] = sj at *
                  generalize j % w.length = jm at *
                  simp +contextual -implicitDefEqProofs (maxSteps := 2000000) only [S8b, oA, oH, nz0, q1, q2, q3, q5, q7, List.length_map, Int.natCast_nonneg, Int.toNat_natCast, not_true_eq_false, not_false_eq_true, and_self, ne_eq, ruB, rh_no, Int.reduceLT, Int.reduceLE, Int.reduceAdd, Int.reduceSub, Int.reduceMul, Int.reduceNeg, Int.reduceToNat, Int.reduceEq, Int.reduceNe, Int.reduceTDiv, Int.reduceTMod, implies_true, putL, appN, appX, appC, Eng.Fi, reduceCtorEq, exists_eq_left', exists_eq_left, if_true, if_false, List.replicate, Nat.reduceAdd, Nat.reduceSub, Nat.reduceMul, Nat.reduceLeDiff, Nat.reduceLT, Nat.reduceEqDiff]
                  simp only [List.map_cons, List.map_nil, subs, List.cons.injEq] at frO
                  exact go2 _ (j + 1) hjl (by omega) (Wkn.to ⟨0, [(0, 0), (1, 1)], [], 2, [1, 2, 5, 7, 9, 11, 12, 13, 15, 17]⟩ rfl rfl (by simp [Wk.st, keepT, memN, Wk.fate, Wk.fate0, assoc, getE, Wk.hp, ABlk.sub, sub1, subs, S8b, oA, oH, free_Se, free_St, free_Vi, free_Sps, frO]))
                · have q1 : decide ((j : Int) < (own.length : Int)) = false := lt_f hjl
                  cases own with
                  | nil => simp at hop
                  | cons w0 wr =>
                    simp only [List.length_nil, List.length_cons, Nat.zero_add] at m1 m2
                    simp only [List.map_cons, List.map_nil, subs, List.cons.injEq] at frO frW
                    simp only [List.map_cons] at m0
                    simp only [List.length_cons] at q1
                    simp +contextual -implicitDefEqProofs (maxSteps := 2000000) only [S8b, oA, oH, nz0, q1, e3, rs_nil, rs_t, rs_f, ag_nils, ag_sl, ag_vs, ag_str, ag_ptr, ag_nilp, ag_vp, ag_fun, m0, m1, m2, List.map_cons, List.length_map, ruB, rh_no, Int.reduceLT, Int.reduceLE, Int.reduceAdd, Int.reduceSub, Int.reduceMul, Int.reduceNeg, Int.reduceToNat, Int.reduceEq, Int.reduceNe, Int.reduceTDiv, Int.reduceTMod, implies_true, putL, appN, appX, appC, Eng.Fi, reduceCtorEq, exists_eq_left', exists_eq_left, if_true, if_false, List.replicate, Nat.reduceAdd, Nat.reduceSub, Nat.reduceMul, Nat.reduceLeDiff, Nat.reduceLT, Nat.reduceEqDiff]
                    refine go _ (i + 1, (x0 :: r0) ++ w0 :: wr) ⟨hlt, by simp only; rw [hrest]; exact hf2⟩ (by simp only; omega) (Wkn.to ⟨0, [(0, 0), (2, 1)], [], 2, [1, 2, 5, 7, 9, 11, 12]⟩ rfl rfl ?_)
                    simp [Wk.st, keepT, memN, Wk.fate, Wk.fate0, assoc, getE, Wk.hp, ABlk.sub, sub1, subs, S8a, oA, oH, free_Se, free_St, free_Vi, free_Sps, subs_append, frO, frW] <;> omega
                
            · obtain ⟨k, ⟨az, el⟩, x2, x3, x4, x5, b⟩ := s
              simp only [Sp.k] at hk2
              have hk2' := eq_false hk2
              simp only [eSp] at e2
              generalize stopsOf 2 (.mk k ⟨az, el⟩ x2 x3 x4 x5 b) = own at *
              cases own with
              | nil => simp at hop
              | cons w0 wr =>
                cases o with
                | nil =>
                  simp only [List.length_nil, List.length_cons, Nat.zero_add] at m1 m2 u1
                  simp only [List.map_cons, List.map_nil, subs, List.cons.injEq] at frO frW z1
                  simp only [List.map_cons] at m0
                  simp +contextual -implicitDefEqProofs (maxSteps := 2000000) only [S8a, oA, oH, nz0, e1, e2, e3, eSps_len, b0, b1, al, hsl, z0, z1, u1, hk2', rs_nil, rs_t, rs_f, ag_nils, ag_sl, ag_vs, ag_str, ag_ptr, ag_nilp, ag_vp, ag_fun, m0, m1, m2, free_St, frW, List.map_cons, List.length_map, not_true_eq_false, not_false_eq_true, ne_eq, ruB, rh_no, Int.reduceLT, Int.reduceLE, Int.reduceAdd, Int.reduceSub, Int.reduceMul, Int.reduceNeg, Int.reduceToNat, Int.reduceEq, Int.reduceNe, Int.reduceTDiv, Int.reduceTMod, implies_true, putL, appN, appX, appC, Eng.Fi, reduceCtorEq, exists_eq_left', exists_eq_left, if_true, if_false, List.replicate, Nat.reduceAdd, Nat.reduceSub, Nat.reduceMul, Nat.reduceLeDiff, Nat.reduceLT, Nat.reduceEqDiff]
                  refine go _ (i + 1, [] ++ w0 :: wr) ⟨hlt, by simp only; rw [hrest]; exact hf2⟩ (by simp only; omega) (Wkn.to ⟨0, [(0, 0), (2, 1)], [], 2, [1, 2, 5, 7, 9, 11, 12]⟩ rfl rfl ?_)
                  simp [Wk.st, keepT, memN, Wk.fate, Wk.fate0, assoc, getE, Wk.hp, ABlk.sub, sub1, subs, S8a, oA, oH, free_Se, free_St, free_Vi, free_Sps, subs_append, frO, frW] <;> omega
                  
                | cons x0 r0 =>
                  simp only [List.length_nil, List.length_cons, Nat.zero_add] at m1 m2 u1
                  simp only [List.map_cons, List.map_nil, subs, List.cons.injEq] at frO frW z1
                  simp only [List.map_cons] at m0
                  simp +contextual -implicitDefEqProofs (maxSteps := 2000000) only [S8a, oA, oH, nz0, e1, e2, e3, eSps_len, b0, b1, al, hsl, z0, z1, u1, hk2', rs_nil, rs_t, rs_f, ag_nils, ag_sl, ag_vs, ag_str, ag_ptr, ag_nilp, ag_vp, ag_fun, m0, m1, m2, free_St, frW, List.map_cons, List.length_map, not_true_eq_false, not_false_eq_true, ne_eq, ruB, rh_no, Int.reduceLT, Int.reduceLE, Int.reduceAdd, Int.reduceSub, Int.reduceMul, Int.reduceNeg, Int.reduceToNat, Int.reduceEq, Int.reduceNe, Int.reduceTDiv, Int.reduceTMod, implies_true, putL, appN, appX, appC, Eng.Fi, reduceCtorEq, exists_eq_left', exists_eq_left, if_true, if_false, List.replicate, Nat.reduceAdd, Nat.reduceSub, Nat.reduceMul, Nat.reduceLeDiff, Nat.reduceLT, Nat.reduceEqDiff]
                  refine go _ (i + 1, (x0 :: r0) ++ w0 :: wr) ⟨hlt, by simp only; rw [hrest]; exact hf2⟩ (by simp only; omega) (Wkn.to ⟨0, [(0, 0), (2, 1)], [], 2, [1, 2, 5, 7, 9, 11, 12]⟩ rfl rfl ?_)
                  simp [Wk.st, keepT, memN, Wk.fate, Wk.fate0, assoc, getE, Wk.hp, ABlk.sub, sub1, subs, S8a, oA, oH, free_Se, free_St, free_Vi, free_Sps, subs_append, frO, frW] <;> omega
                  
          · have e1 : decide ((i : Int) < (l.length : Int)) = false := lt_f hlt
            have hnil : stopsAll 2 (l.drop i) = [] := by rw [List.drop_eq_nil_of_le hlt]; rfl
            rw [hnil, List.append_nil] at hfo
            subst hfo
            have hgl : vs[ss.length - 1]? = some x := by rw [← hlen, ← List.getLast?_eq_getElem?, hx1]
            have hst := r2.2
            have hz1 := r1.2
            have hax := r1.1
            clear hnil hsa
            cases ss with
            | nil => simp at hpos
            | cons s0 sr =>
              have t2 : (sr.map eSt).take sr.length = sr.map eSt := by rw [List.take_of_length_le]; simp
              have frR := fun φ => free_St φ sr
              simp only [List.map_cons] at y9
              simp +contextual -implicitDefEqProofs (maxSteps := 2000000) only [S8a, oA, oH, nz0, callR_bool, e1, eSps_len, y9, t2, free_St, frR, List.map_cons, List.length_map, Nat.le_refl, not_true_eq_false, not_false_eq_true, ne_eq, ruB, rh_no, Int.reduceLT, Int.reduceLE, Int.reduceAdd, Int.reduceSub, Int.reduceMul, Int.reduceNeg, Int.reduceToNat, Int.reduceEq, Int.reduceNe, Int.reduceTDiv, Int.reduceTMod, implies_true, putL, appN, appX, appC, Eng.Fi, reduceCtorEq, exists_eq_left', exists_eq_left, if_true, if_false, List.replicate, Nat.reduceAdd, Nat.reduceSub, Nat.reduceMul, Nat.reduceLeDiff, Nat.reduceLT, Nat.reduceEqDiff]
              refine Cor.lp (addC_good (g_Copy 5) (addC_good g_rSameStops (addC_good g_Mod (addC_good g_rDirectionErr (addC_good g_MoveTicks (addC_good g_Within (addC_good g_rStepsErr (addC_good g_rHeadErr (addC_good g_DurationOf (addC_good g_VisitsOf (addC_good g_Compiled (addC_good g_CopyHead (addC_good g_Few (addC_good g_few (addC_good g_awake (noC_good _)))))))))))))))) (noHx_good _) hm (S8c h (s0 :: sr) vs x.to) (fun p => ((p.1 ≤ (s0 :: sr).length ∧ drR p.2.2) ∧ 0 ≤ p.2.1 ∧ p.2.1 ≤ p.1 * 1450) ∧ vs.drop p.1 = visL h p.2.1 p.2.2 ((s0 :: sr).drop p.1) ∧ (0 < p.1 → ∃ y, vs[p.1 - 1]? = some y ∧ y.to = p.2.1)) (fun p => (s0 :: sr).length - p.1) (a := (0, 0, h.home)) ⟨⟨⟨Nat.zero_le _, hz1⟩, by simp, by simp⟩, hvs, fun h => absurd h (by simp)⟩ (Wkn.to ⟨0, [(0, 0), (2, 1)], [], 2, [2, 5, 7, 9, 18, 19, 20]⟩ rfl rfl (by simp [Wk.st, keepT, memN, Wk.fate, Wk.fate0, assoc, getE, Wk.hp, ABlk.sub, sub1, subs, S8c, free_Se, free_St, free_Vi])) ?_
              generalize s0 :: sr = ss at *
              rintro f ⟨k, t, d⟩ ⟨⟨⟨hk', hd⟩, ht1, ht2⟩, hdv, hto⟩ go
              simp only at hk' hd ht1 ht2 hdv hto
              rcases Nat.lt_or_ge k ss.length with hlt2 | hlt2
              · have q1 : decide ((k : Int) < (ss.length : Int)) = true := lt_t hlt2
                have q2 : (ss.map eSt)[k]? = some (eSt ss[k]) := get_e eSt ss hlt2
                have q3 : IntKind.wrap .i64 ((k : Int) + 1) = ((k + 1 : Nat) : Int) := suc_w (by omega)
                have hs := hst ss[k] (by simp)
                rw [List.drop_eq_getElem_cons hlt2, visL] at hdv
                generalize ss[k] = s at *
                have hmb : mvB h d (stD s) := ⟨⟨hax.1, hax.2⟩, hd, hs.1⟩
                have hb := mvT_bd hmb
                have zs : drE ⟨s.az, s.el⟩ = 0 := unl_t 2 hs.1
                have ys := x_rDirectionErr s.az s.el
                rw [zs] at ys
                have zd : drE d = 0 := unl_t 2 hd
                have hme : mvE h d (stD s) = 0 := by unfold mvE; simp only [firstE, c2, zd, if_true]; rw [show drE (stD s) = 0 from zs]; rfl
                have ym : cf_MoveTicks [eHd h, eDr d, .agg [I s.az, I s.el]] = some (mvV h d (stD s)) := x_MoveTicks h d (stD s) (by simp only [hl'])
                rw [mvV, if_pos hme] at ym
                generalize mvT h d (stD s) = mt at *
                have hvk : vs[k]? = some ⟨s.az, s.el, t + mt, t + mt + s.tk⟩ := by
                  have h9 := List.getElem?_drop (xs := vs) (i := k) (j := 0)
                  rw [hdv] at h9
                  simpa using h9.symm
                have q4 : (vs.map eVi)[k]? = some (eVi ⟨s.az, s.el, t + mt, t + mt + s.tk⟩) := by rw [List.getElem?_map, hvk]; rfl
                have hdv2 : vs.drop (k + 1) = visL h (t + mt + s.tk) (stD s) (ss.drop (k + 1)) := by rw [← List.drop_drop, hdv]; rfl
                obtain ⟨_, hs2⟩ := hs
                have tp : ((k + 1 : Nat) : Int) * 1450 = (k : Int) * 1450 + 1450 := by omega
                have w1 : IntKind.wrap .i64 (t + mt) = t + mt := wrap64 (by omega) (by omega)
                have w2 : IntKind.wrap .i64 (t + mt + s.tk) = t + mt + s.tk := wrap64 (by omega) (by omega)
                have u2 : (0 ≤ mt ∧ mt ≤ 2000) := by omega
                simp +contextual -implicitDefEqProofs (maxSteps := 2000000) only [S8c, nz0, q1, q2, q3, q4, ys, ym, yh, hs2, u2, w1, w2, x_Within, List.length_map, and_self, not_true_eq_false, not_false_eq_true, ne_eq, ruB, rh_no, Int.reduceLT, Int.reduceLE, Int.reduceAdd, Int.reduceSub, Int.reduceMul, Int.reduceNeg, Int.reduceToNat, Int.reduceEq, Int.reduceNe, Int.reduceTDiv, Int.reduceTMod, implies_true, putL, appN, appX, appC, Eng.Fi, reduceCtorEq, exists_eq_left', exists_eq_left, if_true, if_false, List.replicate, Nat.reduceAdd, Nat.reduceSub, Nat.reduceMul, Nat.reduceLeDiff, Nat.reduceLT, Nat.reduceEqDiff]
                refine go _ (k + 1, t + mt + s.tk, stD s) ⟨⟨⟨hlt2, hmb.2.2⟩, by simp only; omega, by simp only; omega⟩, hdv2, fun _ => ⟨_, by simp only; rw [Nat.add_sub_cancel]; exact hvk, rfl⟩⟩ (by simp only; omega) (Wkn.to ⟨0, [(0, 0), (1, 1)], [], 2, [2, 5, 7, 9, 18, 19, 20]⟩ rfl rfl (by simp [Wk.st, keepT, memN, Wk.fate, Wk.fate0, assoc, getE, Wk.hp, ABlk.sub, sub1, subs, S8c, stD, free_Se, free_St, free_Vi]))
              · have q1 : decide ((k : Int) < (ss.length : Int)) = false := lt_f hlt2
                obtain rfl : k = ss.length := by omega
                obtain ⟨y, hy1, hy2⟩ := hto hpos
                rw [hgl] at hy1
                cases hy1
                simp +contextual -implicitDefEqProofs (maxSteps := 2000000) only [S8c, nz0, q1, hy2, List.length_map, not_true_eq_false, not_false_eq_true, ne_eq, ruB, rh_no, Int.reduceLT, Int.reduceLE, Int.reduceAdd, Int.reduceSub, Int.reduceMul, Int.reduceNeg, Int.reduceToNat, Int.reduceEq, Int.reduceNe, Int.reduceTDiv, Int.reduceTMod, implies_true, putL, appN, appX, appC, Eng.Fi, reduceCtorEq, exists_eq_left', exists_eq_left, if_true, if_false, List.replicate, Nat.reduceAdd, Nat.reduceSub, Nat.reduceMul, Nat.reduceLeDiff, Nat.reduceLT, Nat.reduceEqDiff]
        · refine c8.fok (by simp only [free_Hs, subs, sub1, free_Se, free_Sps]) (Cor.run (addC_good g_rStepsErr (addC_good g_rHeadErr (addC_good g_Few (addC_good g_few (addC_good g_awake (noC_good _)))))) (noHx_good _) hm ?_)
          simp +contextual -implicitDefEqProofs (maxSteps := 2000000) only [bg_eq, a8, nz0, x_awake, x_few, yf, y4, y5, h8, c1, c2, not_true_eq_false, not_false_eq_true, ne_eq, ruB, rh_no, Int.reduceLT, Int.reduceLE, Int.reduceAdd, Int.reduceSub, Int.reduceMul, Int.reduceNeg, Int.reduceToNat, Int.reduceEq, Int.reduceNe, Int.reduceTDiv, Int.reduceTMod, implies_true, putL, appN, appX, appC, Eng.Fi, reduceCtorEq, exists_eq_left', exists_eq_left, if_true, if_false, List.replicate, Nat.reduceAdd, Nat.reduceSub, Nat.reduceMul, Nat.reduceLeDiff, Nat.reduceLT, Nat.reduceEqDiff]
      · refine c8.fok (by simp only [free_Hs, subs, sub1, free_Se, free_Sps]) (Cor.run (addC_good g_rStepsErr (addC_good g_rHeadErr (addC_good g_Few (addC_good g_few (addC_good g_awake (noC_good _)))))) (noHx_good _) hm ?_)
        simp +contextual -implicitDefEqProofs (maxSteps := 2000000) only [bg_eq, a8, nz0, x_awake, x_few, yf, y4, h8, c2, not_true_eq_false, not_false_eq_true, ne_eq, ruB, rh_no, Int.reduceLT, Int.reduceLE, Int.reduceAdd, Int.reduceSub, Int.reduceMul, Int.reduceNeg, Int.reduceToNat, Int.reduceEq, Int.reduceNe, Int.reduceTDiv, Int.reduceTMod, implies_true, putL, appN, appX, appC, Eng.Fi, reduceCtorEq, exists_eq_left', exists_eq_left, if_true, if_false, List.replicate, Nat.reduceAdd, Nat.reduceSub, Nat.reduceMul, Nat.reduceLeDiff, Nat.reduceLT, Nat.reduceEqDiff]
    · rw [Bool.eq_false_iff.2 hf] at yf
      refine c8.fok (by simp only [free_Hs, subs, sub1, free_Se, free_Sps]) (Cor.run (addC_good g_rStepsErr (addC_good g_rHeadErr (addC_good g_Few (addC_good g_few (addC_good g_awake (noC_good _)))))) (noHx_good _) hm ?_)
      simp +contextual -implicitDefEqProofs (maxSteps := 2000000) only [bg_eq, a8, nz0, x_awake, x_few, yf, h8, not_true_eq_false, not_false_eq_true, ne_eq, ruB, rh_no, Int.reduceLT, Int.reduceLE, Int.reduceAdd, Int.reduceSub, Int.reduceMul, Int.reduceNeg, Int.reduceToNat, Int.reduceEq, Int.reduceNe, Int.reduceTDiv, Int.reduceTMod, implies_true, putL, appN, appX, appC, Eng.Fi, reduceCtorEq, exists_eq_left', exists_eq_left, if_true, if_false, List.replicate, Nat.reduceAdd, Nat.reduceSub, Nat.reduceMul, Nat.reduceLeDiff, Nat.reduceLT, Nat.reduceEqDiff]
  · refine c8.fok (by simp only [free_Hs, subs, sub1, free_Se, free_Sps]) (Cor.run (addC_good g_rStepsErr (addC_good g_rHeadErr (addC_good g_Few (addC_good g_few (addC_good g_awake (noC_good _)))))) (noHx_good _) hm ?_)
    simp +contextual -implicitDefEqProofs (maxSteps := 2000000) only [bg_eq, a8, nz0, x_awake, x_few, h8, not_true_eq_false, not_false_eq_true, ne_eq, ruB, rh_no, Int.reduceLT, Int.reduceLE, Int.reduceAdd, Int.reduceSub, Int.reduceMul, Int.reduceNeg, Int.reduceToNat, Int.reduceEq, Int.reduceNe, Int.reduceTDiv, Int.reduceTMod, implies_true, putL, appN, appX, appC, Eng.Fi, reduceCtorEq, exists_eq_left', exists_eq_left, if_true, if_false, List.replicate, Nat.reduceAdd, Nat.reduceSub, Nat.reduceMul, Nat.reduceLeDiff, Nat.reduceLT, Nat.reduceEqDiff]
theorem law8 (n0 : Nat) (u0 : AV) (a0 : ArG P n0 42 u0) (n1 : Nat) (u1 : AV) (a1 : ArG P n1 22 u1) : FOk P 8 [u0, u1] (.bool true) := by
  obtain ⟨h, rfl, _⟩ := arHead a0
  obtain ⟨l, rfl⟩ := arSteps a1
  exact k_ScanWritten h l
end Sc
