import Derived.Test.YtabkbhpeeefmgabEngS9
import Derived.Test.YtabkbhpeeefmgabW912
import Derived.Test.YtabkbhpeeefmgabW911
import Derived.Test.YtabkbhpeeefmgabEngSH
open Go Go.Proofs Eng
set_option maxRecDepth 100000
set_option linter.unusedSimpArgs false
set_option linter.unusedVariables false
def a4 : AC := .seq (.ops false [] [⟨some 3, .box 43 7 1 true, [.t 0], none⟩, ⟨some 4, .box 45 6 1 true, [.t 1], none⟩, ⟨some 5, .box 47 7 1 true, [.t 2], none⟩, ⟨some 6, .p (.mov), [.c (.bool false)], none⟩]) (.seq (.seq (.ops false [] [⟨some 21, .call 6, [], none⟩, ⟨some 22, .p (.notB), [.t 21], none⟩]) (.cond (.t 22) (.seq (.ops false [] [⟨some 6, .p (.mov), [.c (.bool false)], none⟩]) (.ret)) (.skip))) (.seq (.seq (.ops false [] [⟨some 23, .p (.faddr 0), [.t 3], none⟩, ⟨some 24, .load 6 true, [.t 23], none⟩, ⟨some 25, .load 6 true, [.t 4], none⟩, ⟨some 26, .load 7 true, [.t 5], none⟩, ⟨some 27, .call 13, [.t 24, .t 25, .t 26], none⟩, ⟨some 28, .p (.binI .neq), [.t 27, .c (.int .i64 0)], none⟩, ⟨some 29, .p (.mov), [.t 28], none⟩, ⟨some 30, .p (.faddr 6), [.t 5], some (29, false)⟩, ⟨some 31, .load 1 false, [.t 30], some (29, false)⟩, ⟨some 32, .p (.binI .gtr), [.t 31, .c (.int .i64 30)], some (29, false)⟩, ⟨some 33, .p (.pick), [.t 29, .c (.bool true), .t 32], none⟩, ⟨some 34, .p (.mov), [.t 33], none⟩, ⟨some 35, .p (.faddr 6), [.t 3], some (34, false)⟩, ⟨some 36, .load 1 false, [.t 35], some (34, false)⟩, ⟨some 37, .p (.lenS), [.t 36], some (34, false)⟩, ⟨some 38, .p (.binI .eql), [.t 37, .c (.int .i64 0)], some (34, false)⟩, ⟨some 39, .p (.pick), [.t 34, .c (.bool true), .t 38], none⟩, ⟨some 40, .p (.mov), [.t 39], none⟩, ⟨some 41, .p (.faddr 6), [.t 3], some (40, false)⟩, ⟨some 42, .load 1 false, [.t 41], some (40, false)⟩, ⟨some 43, .p (.lenS), [.t 42], some (40, false)⟩, ⟨some 44, .p (.binI .gtr), [.t 43, .c (.int .i64 31)], some (40, false)⟩, ⟨some 45, .p (.pick), [.t 40, .c (.bool true), .t 44], none⟩]) (.cond (.t 45) (.seq (.ops false [] [⟨some 6, .p (.mov), [.c (.bool true)], none⟩]) (.ret)) (.skip))) (.seq (.ops false [] [⟨some 47, .p (.faddr 0), [.t 3], none⟩, ⟨some 48, .load 6 true, [.t 47], none⟩, ⟨some 49, .load 6 true, [.t 4], none⟩, ⟨some 50, .load 7 true, [.t 5], none⟩, ⟨some 51, .call 14, [.t 48, .t 49, .t 50], none⟩, ⟨some 46, .p (.mov), [.t 51], none⟩, ⟨some 52, .p (.ext 0), [.t 46], none⟩, ⟨some 53, .p (.ext 1), [.t 46], none⟩, ⟨some 7, .p (.mov), [.t 52], none⟩, ⟨some 8, .p (.mov), [.t 53], none⟩]) (.seq (.ops false [] [⟨some 55, .p (.faddr 0), [.t 3], none⟩, ⟨some 56, .load 6 true, [.t 55], none⟩, ⟨some 57, .load 6 true, [.t 4], none⟩, ⟨some 58, .load 7 true, [.t 5], none⟩, ⟨some 59, .call 15, [.t 56, .t 57, .t 58], none⟩, ⟨some 54, .p (.mov), [.t 59], none⟩, ⟨some 60, .p (.ext 0), [.t 54], none⟩, ⟨some 61, .p (.ext 1), [.t 54], none⟩, ⟨some 9, .p (.mov), [.t 60], none⟩, ⟨some 10, .p (.mov), [.t 61], none⟩]) (.seq (.ops true [] [⟨some 63, .p (.faddr 0), [.t 3], none⟩, ⟨some 64, .load 6 true, [.t 63], none⟩, ⟨some 65, .load 6 true, [.t 4], none⟩, ⟨some 66, .p (.faddr 6), [.t 3], none⟩, ⟨some 67, .load 1 false, [.t 66], none⟩, ⟨some 68, .call 17, [.t 67], none⟩, ⟨some 69, .call 16, [.t 64, .t 65, .t 68], none⟩, ⟨some 62, .p (.mov), [.t 69], none⟩, ⟨some 70, .p (.ext 0), [.t 62], none⟩, ⟨some 71, .p (.ext 1), [.t 62], none⟩, ⟨some 11, .p (.mov), [.t 70], none⟩, ⟨some 12, .p (.mov), [.t 71], none⟩]) (.seq (.seq (.ops false [] [⟨some 72, .p (.mov), [.t 8], none⟩, ⟨some 73, .p (.binI .neq), [.t 72, .c (.int .i64 0)], none⟩, ⟨some 74, .p (.mov), [.t 73], none⟩, ⟨some 75, .p (.mov), [.t 10], some (74, false)⟩, ⟨some 76, .p (.binI .neq), [.t 75, .c (.int .i64 0)], some (74, false)⟩, ⟨some 77, .p (.mov), [.t 76], some (74, false)⟩, ⟨some 78, .p (.mov), [.t 10], some (77, true)⟩, ⟨some 79, .p (.binI .neq), [.t 78, .c (.int .i64 12)], some (77, true)⟩, ⟨some 80, .p (.pick), [.t 77, .t 79, .c (.bool false)], some (74, false)⟩, ⟨some 81, .p (.pick), [.t 74, .c (.bool true), .t 80], none⟩, ⟨some 82, .p (.mov), [.t 81], none⟩, ⟨some 83, .p (.mov), [.t 7], some (82, false)⟩, ⟨some 84, .p (.binI .eql), [.t 83, .c (.int .i64 2)], some (82, false)⟩, ⟨some 85, .p (.mov), [.t 10], some (82, false)⟩, ⟨some 86, .p (.binI .eql), [.t 85, .c (.int .i64 0)], some (82, false)⟩, ⟨some 87, .p (.mov), [.t 86], some (82, false)⟩, ⟨some 88, .p (.mov), [.t 9], some (87, true)⟩, ⟨some 89, .p (.faddr 5), [.t 5], some (87, true)⟩, ⟨some 90, .load 1 false, [.t 89], some (87, true)⟩, ⟨some 91, .p (.binI .eql), [.t 88, .t 90], some (87, true)⟩, ⟨some 92, .p (.pick), [.t 87, .t 91, .c (.bool false)], some (82, false)⟩, ⟨some 93, .p (.eqB true), [.t 84, .t 92], some (82, false)⟩, ⟨some 94, .p (.pick), [.t 82, .c (.bool true), .t 93], none⟩]) (.cond (.t 94) (.seq (.ops false [] [⟨some 6, .p (.mov), [.c (.bool false)], none⟩]) (.ret)) (.skip))) (.seq (.ops false [] [⟨some 13, .p (.mov), [.c (.bool false)], none⟩]) (.seq (.seq (.ops false [] [⟨some 95, .p (.faddr 5), [.t 5], none⟩, ⟨some 96, .load 1 false, [.t 95], none⟩, ⟨some 14, .p (.mov), [.t 96], none⟩]) (.block 0 (.loop (.seq (.seq (.ops false [] [⟨some 97, .p (.mov), [.t 14], none⟩, ⟨some 98, .p (.faddr 6), [.t 5], none⟩, ⟨some 99, .load 1 false, [.t 98], none⟩, ⟨some 100, .p (.binI .leq), [.t 97, .t 99], none⟩, ⟨some 101, .p (.mov), [.t 100], none⟩, ⟨some 102, .p (.mov), [.t 14], some (101, true)⟩, ⟨some 103, .p (.faddr 6), [.t 3], some (101, true)⟩, ⟨some 104, .load 1 false, [.t 103], some (101, true)⟩, ⟨some 105, .p (.lenS), [.t 104], some (101, true)⟩, ⟨some 106, .p (.binI .lss), [.t 102, .t 105], some (101, true)⟩, ⟨some 107, .p (.pick), [.t 101, .t 106, .c (.bool false)], none⟩]) (.cond (.t 107) (.skip) (.exit 0))) (.seq (.block 1 (.ops true [] [⟨some 110, .p (.mov), [.t 13], none⟩, ⟨some 111, .p (.mov), [.t 110], none⟩, ⟨some 112, .load 7 true, [.t 5], some (111, false)⟩, ⟨some 113, .call 19, [.t 112], some (111, false)⟩, ⟨some 114, .p (.faddr 6), [.t 3], some (111, false)⟩, ⟨some 115, .load 1 false, [.t 114], some (111, false)⟩, ⟨some 116, .p (.mov), [.t 14], some (111, false)⟩, ⟨some 117, .p (.iaddrS 3), [.t 115, .t 116], some (111, false)⟩, ⟨some 118, .load 3 true, [.t 117], some (111, false)⟩, ⟨some 119, .call 18, [.t 113, .t 118], some (111, false)⟩, ⟨some 120, .p (.pick), [.t 111, .c (.bool true), .t 119], none⟩, ⟨some 13, .p (.mov), [.t 120], none⟩])) (.ops false [] [⟨some 108, .p (.mov), [.t 14], none⟩, ⟨some 109, .p (.binI .add), [.t 108, .c (.int .i64 1)], none⟩, ⟨some 14, .p (.mov), [.t 109], none⟩])))))) (.seq (.seq (.ops false [] [⟨some 121, .p (.mov), [.t 12], none⟩, ⟨some 122, .p (.binI .eql), [.t 121, .c (.int .i64 0)], none⟩, ⟨some 123, .p (.mov), [.t 122], none⟩, ⟨some 124, .p (.mov), [.t 7], some (123, true)⟩, ⟨some 125, .p (.binI .eql), [.t 124, .c (.int .i64 2)], some (123, true)⟩, ⟨some 126, .p (.mov), [.t 125], some (123, true)⟩, ⟨some 127, .p (.mov), [.t 13], some (126, true)⟩, ⟨some 128, .p (.pick), [.t 126, .t 127, .c (.bool false)], some (123, true)⟩, ⟨some 129, .p (.mov), [.t 128], some (123, true)⟩, ⟨some 130, .p (.mov), [.t 7], some (129, false)⟩, ⟨some 131, .p (.binI .eql), [.t 130, .c (.int .i64 0)], some (129, false)⟩, ⟨some 132, .p (.mov), [.t 131], some (129, false)⟩, ⟨some 133, .p (.mov), [.t 13], some (132, true)⟩, ⟨some 134, .p (.notB), [.t 133], some (132, true)⟩, ⟨some 135, .p (.pick), [.t 132, .t 134, .c (.bool false)], some (129, false)⟩, ⟨some 136, .p (.mov), [.t 135], some (129, false)⟩, ⟨some 137, .p (.faddr 6), [.t 3], some (136, true)⟩, ⟨some 138, .load 1 false, [.t 137], some (136, true)⟩, ⟨some 139, .p (.lenS), [.t 138], some (136, true)⟩, ⟨some 140, .p (.faddr 6), [.t 5], some (136, true)⟩, ⟨some 141, .load 1 false, [.t 140], some (136, true)⟩, ⟨some 142, .p (.binI .gtr), [.t 139, .t 141], some (136, true)⟩, ⟨some 143, .p (.pick), [.t 136, .t 142, .c (.bool false)], some (129, false)⟩, ⟨some 144, .p (.pick), [.t 129, .c (.bool true), .t 143], some (123, true)⟩, ⟨some 145, .p (.pick), [.t 123, .t 144, .c (.bool false)], none⟩]) (.cond (.t 145) (.seq (.ops false [] [⟨some 6, .p (.mov), [.c (.bool false)], none⟩]) (.ret)) (.skip))) (.seq (.seq (.ops false [] [⟨some 146, .p (.mov), [.t 10], none⟩, ⟨some 147, .p (.binI .eql), [.t 146, .c (.int .i64 0)], none⟩]) (.cond (.t 147) (.seq (.ops false [] [⟨some 148, .load 7 true, [.t 5], none⟩, ⟨some 15, .alloc 47 7 [.agg [.int .i64 0, .int .i64 0, .int .i64 0, .int .i64 0, .int .i64 0, .int .i64 0, .int .i64 0]], [], none⟩, ⟨none, .store 7 true, [.t 15, .t 148], none⟩]) (.seq (.ops false [] [⟨some 149, .p (.mov), [.t 9], none⟩, ⟨some 150, .p (.faddr 5), [.t 15], none⟩, ⟨none, .store 1 false, [.t 150, .t 149], none⟩]) (.seq (.ops false [] [⟨some 152, .p (.faddr 0), [.t 3], none⟩, ⟨some 153, .load 6 true, [.t 152], none⟩, ⟨some 154, .load 6 true, [.t 4], none⟩, ⟨some 155, .load 7 true, [.t 15], none⟩, ⟨some 156, .call 14, [.t 153, .t 154, .t 155], none⟩, ⟨some 151, .p (.mov), [.t 156], none⟩, ⟨some 157, .p (.ext 0), [.t 151], none⟩, ⟨some 158, .p (.ext 1), [.t 151], none⟩, ⟨some 16, .p (.mov), [.t 157], none⟩, ⟨some 17, .p (.mov), [.t 158], none⟩]) (.seq (.seq (.ops false [] [⟨some 159, .p (.mov), [.t 17], none⟩, ⟨some 160, .p (.binI .neq), [.t 159, .c (.int .i64 0)], none⟩, ⟨some 161, .p (.mov), [.t 160], none⟩, ⟨some 162, .p (.mov), [.t 16], some (161, false)⟩, ⟨some 163, .p (.binI .neq), [.t 162, .c (.int .i64 2)], some (161, false)⟩, ⟨some 164, .p (.pick), [.t 161, .c (.bool true), .t 163], none⟩, ⟨some 165, .p (.mov), [.t 164], none⟩, ⟨some 166, .p (.mov), [.t 9], some (165, false)⟩, ⟨some 167, .p (.faddr 5), [.t 5], some (165, false)⟩, ⟨some 168, .load 1 false, [.t 167], some (165, false)⟩, ⟨some 169, .p (.faddr 6), [.t 5], some (165, false)⟩, ⟨some 170, .load 1 false, [.t 169], some (165, false)⟩, ⟨some 171, .call 20, [.t 166, .t 168, .t 170], some (165, false)⟩, ⟨some 172, .p (.notB), [.t 171], some (165, false)⟩, ⟨some 173, .p (.pick), [.t 165, .c (.bool true), .t 172], none⟩]) (.cond (.t 173) (.seq (.ops false [] [⟨some 6, .p (.mov), [.c (.bool false)], none⟩]) (.ret)) (.skip))) (.seq (.ops false [] [⟨some 174, .p (.mov), [.t 9], none⟩, ⟨some 175, .p (.faddr 5), [.t 5], none⟩, ⟨some 176, .load 1 false, [.t 175], none⟩, ⟨some 177, .p (.binI .gtr), [.t 174, .t 176], none⟩]) (.cond (.t 177) (.seq (.ops false [] [⟨some 178, .p (.mov), [.t 9], none⟩, ⟨some 179, .p (.binI .sub), [.t 178, .c (.int .i64 1)], none⟩, ⟨some 180, .p (.faddr 5), [.t 15], none⟩, ⟨none, .store 1 false, [.t 180, .t 179], none⟩]) (.seq (.ops false [] [⟨some 182, .p (.faddr 0), [.t 3], none⟩, ⟨some 183, .load 6 true, [.t 182], none⟩, ⟨some 184, .load 6 true, [.t 4], none⟩, ⟨some 185, .load 7 true, [.t 15], none⟩, ⟨some 186, .call 14, [.t 183, .t 184, .t 185], none⟩, ⟨some 181, .p (.mov), [.t 186], none⟩, ⟨some 187, .p (.ext 0), [.t 181], none⟩, ⟨some 188, .p (.ext 1), [.t 181], none⟩, ⟨some 16, .p (.mov), [.t 187], none⟩, ⟨some 17, .p (.mov), [.t 188], none⟩]) (.seq (.ops false [] [⟨some 189, .p (.mov), [.t 17], none⟩, ⟨some 190, .p (.binI .neq), [.t 189, .c (.int .i64 0)], none⟩, ⟨some 191, .p (.mov), [.t 190], none⟩, ⟨some 192, .p (.mov), [.t 16], some (191, false)⟩, ⟨some 193, .p (.binI .eql), [.t 192, .c (.int .i64 2)], some (191, false)⟩, ⟨some 194, .p (.pick), [.t 191, .c (.bool true), .t 193], none⟩]) (.cond (.t 194) (.seq (.ops false [] [⟨some 6, .p (.mov), [.c (.bool false)], none⟩]) (.ret)) (.skip))))) (.skip))))))) (.skip))) (.seq (.seq (.ops false [] [⟨some 195, .p (.mov), [.t 7], none⟩, ⟨some 196, .p (.binI .neq), [.t 195, .c (.int .i64 2)], none⟩, ⟨some 197, .p (.mov), [.t 196], none⟩, ⟨some 198, .p (.faddr 4), [.t 5], some (197, false)⟩, ⟨some 199, .load 1 false, [.t 198], some (197, false)⟩, ⟨some 200, .p (.binI .eql), [.t 199, .c (.int .i64 10000)], some (197, false)⟩, ⟨some 201, .p (.pick), [.t 197, .c (.bool true), .t 200], none⟩]) (.cond (.t 201) (.seq (.ops false [] [⟨some 6, .p (.mov), [.c (.bool true)], none⟩]) (.ret)) (.skip))) (.seq (.ops false [] [⟨some 202, .load 7 true, [.t 5], none⟩, ⟨some 18, .alloc 47 7 [.agg [.int .i64 0, .int .i64 0, .int .i64 0, .int .i64 0, .int .i64 0, .int .i64 0, .int .i64 0]], [], none⟩, ⟨none, .store 7 true, [.t 18, .t 202], none⟩]) (.seq (.ops false [] [⟨some 203, .p (.faddr 4), [.t 5], none⟩, ⟨some 204, .load 1 false, [.t 203], none⟩, ⟨some 205, .p (.binI .add), [.t 204, .c (.int .i64 1)], none⟩, ⟨some 206, .p (.faddr 4), [.t 18], none⟩, ⟨none, .store 1 false, [.t 206, .t 205], none⟩]) (.seq (.ops false [] [⟨some 208, .p (.faddr 0), [.t 3], none⟩, ⟨some 209, .load 6 true, [.t 208], none⟩, ⟨some 210, .load 6 true, [.t 4], none⟩, ⟨some 211, .load 7 true, [.t 18], none⟩, ⟨some 212, .call 14, [.t 209, .t 210, .t 211], none⟩, ⟨some 207, .p (.mov), [.t 212], none⟩, ⟨some 213, .p (.ext 0), [.t 207], none⟩, ⟨some 214, .p (.ext 1), [.t 207], none⟩, ⟨some 19, .p (.mov), [.t 213], none⟩, ⟨some 20, .p (.mov), [.t 214], none⟩]) (.seq (.ops false [] [⟨some 215, .p (.mov), [.t 20], none⟩, ⟨some 216, .p (.binI .eql), [.t 215, .c (.int .i64 0)], none⟩, ⟨some 217, .p (.mov), [.t 216], none⟩, ⟨some 218, .p (.mov), [.t 19], some (217, true)⟩, ⟨some 219, .p (.binI .eql), [.t 218, .c (.int .i64 2)], some (217, true)⟩, ⟨some 220, .p (.pick), [.t 217, .t 219, .c (.bool false)], none⟩, ⟨some 6, .p (.mov), [.t 220], none⟩]) (.ret))))))))))))))))
theorem c4 : FnC Try.prog 4 221 a4 [.tmp 6] := ⟨Try.call4, _, _, Try.func4, rfl, by kernel_rfl, by kernel_rfl, rfl⟩
namespace Wa
abbrev FLw (b : Bx) (l : List Vo) : AV := .agg [I b.yl, I b.yh, I b.zl, I b.zh, I b.sl, I b.sh, .vs (l.map eVo)]
def S_cr0 (b d : Bx) (c : Co) (l : List Vo) : AState := ⟨[.any, .any, .any, .vp [FLw b l] 0 0, .vp [eBx d] 0 0, .vp [eCo c] 0 0, .bool false, .any, .any, .any, .any, .any, .any, .any, .any, .any, .any, .any, .any, .any, .any, .any, .any, .any, .any, .any, .any, .any, .any, .any, .any, .any, .any, .any, .any, .any, .any, .any, .any, .any, .any, .any, .any, .any, .any, .any, .any, .any, .any, .any, .any, .any, .any, .any, .any, .any, .any, .any, .any, .any, .any, .any, .any, .any, .any, .any, .any, .any, .any, .any, .any, .any, .any, .any, .any, .any, .any, .any, .any, .any, .any, .any, .any, .any, .any, .any, .any, .any, .any, .any, .any, .any, .any, .any, .any, .any, .any, .any, .any, .any, .any, .any, .any, .any, .any, .any, .any, .any, .any, .any, .any, .any, .any, .any, .any, .any, .any, .any, .any, .any, .any, .any, .any, .any, .any, .any, .any, .any, .any, .any, .any, .any, .any, .any, .any, .any, .any, .any, .any, .any, .any, .any, .any, .any, .any, .any, .any, .any, .any, .any, .any, .any, .any, .any, .any, .any, .any, .any, .any, .any, .any, .any, .any, .any, .any, .any, .any, .any, .any, .any, .any, .any, .any, .any, .any, .any, .any, .any, .any, .any, .any, .any, .any, .any, .any, .any, .any, .any, .any, .any, .any, .any, .any, .any, .any, .any, .any, .any, .any, .any, .any, .any, .any, .any, .any, .any, .any, .any, .any, .any, .any, .any, .any, .any, .any, .any, .any, .any, .any, .any, .any], [], 0⟩
def S_cr1 (b d : Bx) (c : Co) (l : List Vo) (n t f g : Int) (q : Bool) (k : Int) : AState := ⟨[.any, .any, .any, .vp [FLw b l] 0 0, .vp [eBx d] 0 0, .vp [eCo c] 0 0, .any, I n, .any, I t, I f, .any, I g, .bool q, I k, .any, .any, .any, .any, .any, .any, .any, .any, .any, .any, .any, .any, .any, .any, .any, .any, .any, .any, .any, .any, .any, .any, .any, .any, .any, .any, .any, .any, .any, .any, .any, .any, .any, .any, .any, .any, .any, .any, .any, .any, .any, .any, .any, .any, .any, .any, .any, .any, .any, .any, .any, .any, .any, .any, .any, .any, .any, .any, .any, .any, .any, .any, .any, .any, .any, .any, .any, .any, .any, .any, .any, .any, .any, .any, .any, .any, .any, .any, .any, .any, .any, .any, .any, .any, .any, .any, .any, .any, .any, .any, .any, .any, .any, .any, .any, .any, .any, .any, .any, .any, .any, .any, .any, .any, .any, .any, .any, .any, .any, .any, .any, .any, .any, .any, .any, .any, .any, .any, .any, .any, .any, .any, .any, .any, .any, .any, .any, .any, .any, .any, .any, .any, .any, .any, .any, .any, .any, .any, .any, .any, .any, .any, .any, .any, .any, .any, .any, .any, .any, .any, .any, .any, .any, .any, .any, .any, .any, .any, .any, .any, .any, .any, .any, .any, .any, .any, .any, .any, .any, .any, .any, .any, .any, .any, .any, .any, .any, .any, .any, .any, .any, .any, .any, .any, .any, .any, .any, .any, .any, .any, .any, .any, .any, .any, .any, .any, .any, .any, .any, .any, .any, .any, .any, .any, .any, .any], [], 0⟩
def S_cr2 (b d : Bx) (c : Co) (l : List Vo) (n t f : Int) : AState := ⟨[.any, .any, .any, .vp [FLw b l] 0 0, .vp [eBx d] 0 0, .vp [eCo c] 0 0, .any, I n, .any, I t, I f, .any, .any, .any, .any, .any, .any, .any, .any, .any, .any, .any, .any, .any, .any, .any, .any, .any, .any, .any, .any, .any, .any, .any, .any, .any, .any, .any, .any, .any, .any, .any, .any, .any, .any, .any, .any, .any, .any, .any, .any, .any, .any, .any, .any, .any, .any, .any, .any, .any, .any, .any, .any, .any, .any, .any, .any, .any, .any, .any, .any, .any, .any, .any, .any, .any, .any, .any, .any, .any, .any, .any, .any, .any, .any, .any, .any, .any, .any, .any, .any, .any, .any, .any, .any, .any, .any, .any, .any, .any, .any, .any, .any, .any, .any, .any, .any, .any, .any, .any, .any, .any, .any, .any, .any, .any, .any, .any, .any, .any, .any, .any, .any, .any, .any, .any, .any, .any, .any, .any, .any, .any, .any, .any, .any, .any, .any, .any, .any, .any, .any, .any, .any, .any, .any, .any, .any, .any, .any, .any, .any, .any, .any, .any, .any, .any, .any, .any, .any, .any, .any, .any, .any, .any, .any, .any, .any, .any, .any, .any, .any, .any, .any, .any, .any, .any, .any, .any, .any, .any, .any, .any, .any, .any, .any, .any, .any, .any, .any, .any, .any, .any, .any, .any, .any, .any, .any, .any, .any, .any, .any, .any, .any, .any, .any, .any, .any, .any, .any, .any, .any, .any, .any, .any, .any, .any, .any, .any, .any, .any, .any], [], 0⟩
def S_cr3 (b d : Bx) (c : Co) (l : List Vo) (n : Int) : AState := ⟨[.any, .any, .any, .vp [FLw b l] 0 0, .vp [eBx d] 0 0, .vp [eCo c] 0 0, .any, I n, .any, .any, .any, .any, .any, .any, .any, .any, .any, .any, .any, .any, .any, .any, .any, .any, .any, .any, .any, .any, .any, .any, .any, .any, .any, .any, .any, .any, .any, .any, .any, .any, .any, .any, .any, .any, .any, .any, .any, .any, .any, .any, .any, .any, .any, .any, .any, .any, .any, .any, .any, .any, .any, .any, .any, .any, .any, .any, .any, .any, .any, .any, .any, .any, .any, .any, .any, .any, .any, .any, .any, .any, .any, .any, .any, .any, .any, .any, .any, .any, .any, .any, .any, .any, .any, .any, .any, .any, .any, .any, .any, .any, .any, .any, .any, .any, .any, .any, .any, .any, .any, .any, .any, .any, .any, .any, .any, .any, .any, .any, .any, .any, .any, .any, .any, .any, .any, .any, .any, .any, .any, .any, .any, .any, .any, .any, .any, .any, .any, .any, .any, .any, .any, .any, .any, .any, .any, .any, .any, .any, .any, .any, .any, .any, .any, .any, .any, .any, .any, .any, .any, .any, .any, .any, .any, .any, .any, .any, .any, .any, .any, .any, .any, .any, .any, .any, .any, .any, .any, .any, .any, .any, .any, .any, .any, .any, .any, .any, .any, .any, .any, .any, .any, .any, .any, .any, .any, .any, .any, .any, .any, .any, .any, .any, .any, .any, .any, .any, .any, .any, .any, .any, .any, .any, .any, .any, .any, .any, .any, .any, .any, .any, .any], [], 0⟩
def S_cr4 (b d : Bx) (c : Co) (l : List Vo) (n t f g : Int) : AState := ⟨[.any, .any, .any, .vp [FLw b l] 0 0, .vp [eBx d] 0 0, .vp [eCo c] 0 0, .any, I n, .any, I t, I f, .any, I g, .any, .any, .any, .any, .any, .any, .any, .any, .any, .any, .any, .any, .any, .any, .any, .any, .any, .any, .any, .any, .any, .any, .any, .any, .any, .any, .any, .any, .any, .any, .any, .any, .any, .any, .any, .any, .any, .any, .any, .any, .any, .any, .any, .any, .any, .any, .any, .any, .any, .any, .any, .any, .any, .any, .any, .any, .any, .any, .any, .any, .any, .any, .any, .any, .any, .any, .any, .any, .any, .any, .any, .any, .any, .any, .any, .any, .any, .any, .any, .any, .any, .any, .any, .any, .any, .any, .any, .any, .any, .any, .any, .any, .any, .any, .any, .any, .any, .any, .any, .any, .any, .any, .any, .any, .any, .any, .any, .any, .any, .any, .any, .any, .any, .any, .any, .any, .any, .any, .any, .any, .any, .any, .any, .any, .any, .any, .any, .any, .any, .any, .any, .any, .any, .any, .any, .any, .any, .any, .any, .any, .any, .any, .any, .any, .any, .any, .any, .any, .any, .any, .any, .any, .any, .any, .any, .any, .any, .any, .any, .any, .any, .any, .any, .any, .any, .any, .any, .any, .any, .any, .any, .any, .any, .any, .any, .any, .any, .any, .any, .any, .any, .any, .any, .any, .any, .any, .any, .any, .any, .any, .any, .any, .any, .any, .any, .any, .any, .any, .any, .any, .any, .any, .any, .any, .any, .any, .any, .any], [], 0⟩
def S_cr5 (b d : Bx) (c : Co) (l : List Vo) (n t f g : Int) (q : Bool) : AState := ⟨[.any, .any, .any, .vp [FLw b l] 0 0, .vp [eBx d] 0 0, .vp [eCo c] 0 0, .any, I n, .any, I t, I f, .any, I g, .bool q, .any, .any, .any, .any, .any, .any, .any, .any, .any, .any, .any, .any, .any, .any, .any, .any, .any, .any, .any, .any, .any, .any, .any, .any, .any, .any, .any, .any, .any, .any, .any, .any, .any, .any, .any, .any, .any, .any, .any, .any, .any, .any, .any, .any, .any, .any, .any, .any, .any, .any, .any, .any, .any, .any, .any, .any, .any, .any, .any, .any, .any, .any, .any, .any, .any, .any, .any, .any, .any, .any, .any, .any, .any, .any, .any, .any, .any, .any, .any, .any, .any, .any, .any, .any, .any, .any, .any, .any, .any, .any, .any, .any, .any, .any, .any, .any, .any, .any, .any, .any, .any, .any, .any, .any, .any, .any, .any, .any, .any, .any, .any, .any, .any, .any, .any, .any, .any, .any, .any, .any, .any, .any, .any, .any, .any, .any, .any, .any, .any, .any, .any, .any, .any, .any, .any, .any, .any, .any, .any, .any, .any, .any, .any, .any, .any, .any, .any, .any, .any, .any, .any, .any, .any, .any, .any, .any, .any, .any, .any, .any, .any, .any, .any, .any, .any, .any, .any, .any, .any, .any, .any, .any, .any, .any, .any, .any, .any, .any, .any, .any, .any, .any, .any, .any, .any, .any, .any, .any, .any, .any, .any, .any, .any, .any, .any, .any, .any, .any, .any, .any, .any, .any, .any, .any, .any, .any, .any], [], 0⟩
theorem crP_s {c : Co} {l : List Vo} {k : Int} (h0 : 0 ≤ k) (hf : c.fr ≤ k) (hk : k.toNat < l.length) : crP c l (k + 1) ↔ crP c l k ∨ hoP (reG c) l[k.toNat] := by
  constructor
  · rintro ⟨j, h1, h2, h3, h4⟩
    by_cases e : (j : Int) = k
    · subst e
      exact .inr (by simpa using h4)
    · exact .inl ⟨j, h1, by omega, h3, h4⟩
  · rintro (⟨j, h1, h2, h3, h4⟩ | h)
    · exact ⟨j, h1, by omega, h3, h4⟩
    · exact ⟨k.toNat, by omega, by omega, hk, h⟩
theorem crP_end {c : Co} {l : List Vo} {k k' : Int} (hk : (l.length : Int) ≤ k) (hk' : k ≤ k') : crP c l k' ↔ crP c l k := by
  constructor
  · rintro ⟨j, h1, h2, h3, h4⟩
    exact ⟨j, h1, by omega, h3, h4⟩
  · rintro ⟨j, h1, h2, h3, h4⟩
    exact ⟨j, h1, by omega, h3, h4⟩
set_option maxHeartbeats 2000000 in
theorem k_WakeCrossed (b d : Bx) (c : Co) (l : List Vo) (hl0 : l.length ≤ maxLen) : FOk P 4 [FLw b l, eBx d, eCo c] (.bool true) := by
  have y0 := x_rFreeErr b d c
  refine c4.fok (y := YH P noHx) (by simp only [subs, sub1, free_Vo]) ?_
  rw [bg_eq]
  refine Cor.seq (Cor.run (noC_good _) (noHx_good _) hm ?_)
  simp +contextual -implicitDefEqProofs (maxSteps := 2000000) only [eThen_normal, ruB, rh_no, Int.reduceLT, Int.reduceLE, Int.reduceAdd, Int.reduceSub, Int.reduceMul, Int.reduceNeg, Int.reduceToNat, Int.reduceEq, Int.reduceNe, Int.reduceTDiv, Int.reduceTMod, implies_true, putL, appN, appX, appC, Eng.Fi, reduceCtorEq, exists_eq_left', exists_eq_left, if_true, if_false, List.replicate, Nat.reduceAdd, Nat.reduceSub, Nat.reduceMul, Nat.reduceLeDiff, Nat.reduceLT, Nat.reduceEqDiff]
  refine Cor.wk (s2 := S_cr0 b d c l) (Wkn.to ⟨0, [], [0, 1, 2], 0, [3, 4, 5, 6]⟩ rfl rfl (by simp [Wk.st, keepT, memN, Wk.fate, Wk.fate0, assoc, getE, Wk.hp, ABlk.sub, sub1, subs, S_cr0, free_Vo])) ?_
  by_cases h0 : feE b d c = 0
  · have h0' := eq_true h0
    by_cases h1 : 30 < c.to
    · have h1' := eq_true h1
      refine Cor.run (addC_good g_rFreeErr (addC_good g_awake (noC_good _))) (noHx_good _) hm ?_
      simp +contextual -implicitDefEqProofs (maxSteps := 2000000) only [S_cr0, x_awake, y0, h0', h1', List.length_map, not_true_eq_false, ruB, rh_no, Int.reduceLT, Int.reduceLE, Int.reduceAdd, Int.reduceSub, Int.reduceMul, Int.reduceNeg, Int.reduceToNat, Int.reduceEq, Int.reduceNe, Int.reduceTDiv, Int.reduceTMod, implies_true, putL, appN, appX, appC, Eng.Fi, reduceCtorEq, exists_eq_left', exists_eq_left, if_true, if_false, List.replicate, Nat.reduceAdd, Nat.reduceSub, Nat.reduceMul, Nat.reduceLeDiff, Nat.reduceLT, Nat.reduceEqDiff]
    · have h1' := eq_false h1
      by_cases h2 : (l.length : Int) = 0
      · have h2' := eq_true h2
        refine Cor.run (addC_good g_rFreeErr (addC_good g_awake (noC_good _))) (noHx_good _) hm ?_
        simp +contextual -implicitDefEqProofs (maxSteps := 2000000) only [S_cr0, x_awake, y0, h0', h1', h2', List.length_map, not_true_eq_false, ruB, rh_no, Int.reduceLT, Int.reduceLE, Int.reduceAdd, Int.reduceSub, Int.reduceMul, Int.reduceNeg, Int.reduceToNat, Int.reduceEq, Int.reduceNe, Int.reduceTDiv, Int.reduceTMod, implies_true, putL, appN, appX, appC, Eng.Fi, reduceCtorEq, exists_eq_left', exists_eq_left, if_true, if_false, List.replicate, Nat.reduceAdd, Nat.reduceSub, Nat.reduceMul, Nat.reduceLeDiff, Nat.reduceLT, Nat.reduceEqDiff]
      · have h2' := eq_false h2
        by_cases h3 : 31 < (l.length : Int)
        · have h3' := eq_true h3
          refine Cor.run (addC_good g_rFreeErr (addC_good g_awake (noC_good _))) (noHx_good _) hm ?_
          simp +contextual -implicitDefEqProofs (maxSteps := 2000000) only [S_cr0, x_awake, y0, h0', h1', h2', h3', List.length_map, not_true_eq_false, ruB, rh_no, Int.reduceLT, Int.reduceLE, Int.reduceAdd, Int.reduceSub, Int.reduceMul, Int.reduceNeg, Int.reduceToNat, Int.reduceEq, Int.reduceNe, Int.reduceTDiv, Int.reduceTMod, implies_true, putL, appN, appX, appC, Eng.Fi, reduceCtorEq, exists_eq_left', exists_eq_left, if_true, if_false, List.replicate, Nat.reduceAdd, Nat.reduceSub, Nat.reduceMul, Nat.reduceLeDiff, Nat.reduceLT, Nat.reduceEqDiff]
        · have h3' := eq_false h3
          have hmv : mvE b d = 0 := by
            unfold feE at h0
            split at h0
            · rename_i q; exact q
            · rename_i q; exact absurd h0 q
          have hco : coE c = 0 := by
            unfold feE at h0
            rw [if_pos hmv] at h0; exact h0
          have hmv2 := hmv
          rw [mvE_first] at hmv2
          have zz := firstE_zero hmv2
          have hbx := zz (bxE b) (by simp)
          have hdf := zz (dfE d) (by simp)
          have hoc : ocE b d c = 0 := firstE_all (by simp [hbx, hdf, hco])
          obtain ⟨b1, b2, b3, b4⟩ := bxE_z hbx
          obtain ⟨d1, d2, d3, d4⟩ := dfE_z hdf
          have zc := firstE_zero hco
          have c1 := unl_zero (zc (unl (coR c) 2) (by simp)) (by decide)
          have c2 := unl_zero (zc (unl (c.yl ≤ c.yh) 9) (by simp)) (by decide)
          have c3 := unl_zero (zc (unl (c.zl ≤ c.zh) 9) (by simp)) (by decide)
          have c4 := unl_zero (zc (unl (c.fr ≤ c.to) 9) (by simp)) (by decide)
          have hfr : 0 ≤ c.fr ∧ c.fr ≤ 1000 := c1.1.2
          have hto : 0 ≤ c.to ∧ c.to ≤ 1000 := c1.2
          have hlim : 0 ≤ c.lim ∧ c.lim ≤ 10000 := c1.1.1.2
          have hI : crI b d c := ⟨⟨b2, b3, b4⟩, ⟨d2, d3, d4⟩, hfr.1, c4⟩
          have y1 := x_IsFree b d c
          rw [iFV, if_pos hoc] at y1
          have y2 := x_EarliestFree b d c
          rw [eRV, if_pos hoc] at y2
          have y3 := x_CheckPath b d l (by simp only [eq_iff_iff, iff_true]; omega)
          have y4 := x_CopyVortices l (by simp only [eq_iff_iff, iff_true]; omega)
          have hin := fun (hc : (cpV b d l).2 = 0) k (hk : k < l.length) => cp_in hmv (by omega) (by omega) hc hk
          have hyes := fun (hc : (cpV b d l).2 = 0) (hn : iF b d c = 2) => cr_yes (l := l) hI (hin hc) hn (k := c.to + 1) (Int.le_refl _)
          have hno := fun (hc : (cpV b d l).2 = 0) (hn : iF b d c = 0) (hlt : c.to < (l.length : Int)) => cr_no (l := l) hI (fun v hv => by
            obtain ⟨k, hk, rfl⟩ := List.mem_iff_getElem.1 hv
            have h5 := hin hc k hk
            have h6 : 0 ≤ (k : Int) * d.sl := Int.mul_nonneg (by omega) (by unfold dfR inR at d1; omega)
            unfold hoP at h5
            simp only [afV] at h5
            unfold bxR inR at b1
            omega) (hin hc) hn hlt
          have heq := iF_eR hI
          have hsp := (eR_sp hI).1
          have hlat : ∀ f : Int, 0 ≤ f → eR b d c < f → f ≤ c.to → cf_IsFree [eBx b, eBx d, .agg [I c.yl, I c.yh, I c.zl, I c.zh, I c.lim, I f, I c.to]] = some (.tup [I 2, I 0]) := fun f q0 q1 q2 => by
            have y := x_IsFree b d { c with fr := f }
            have ho : ocE b d { c with fr := f } = 0 := firstE_all (by
              have : coE { c with fr := f } = 0 := firstE_all (by
                have e1 : coR { c with fr := f } := ⟨⟨c1.1.1, by unfold tiR; simp only; omega⟩, c1.2⟩
                have e2 : f ≤ c.to := q2
                simp [unl, e1, c2, c3, e2])
              simp [hbx, hdf, this])
            rw [iFV, if_pos ho, iF_later hI q0 q1 q2] at y
            exact y
          have hbef : c.fr ≤ eR b d c → ∃ m, cf_IsFree [eBx b, eBx d, .agg [I c.yl, I c.yh, I c.zl, I c.zh, I c.lim, I (eR b d c), I c.to]] = some (.tup [I m, I 0]) ∧ m ≠ 2 := fun q0 => by
            have y := x_IsFree b d { c with fr := eR b d c }
            have ho : ocE b d { c with fr := eR b d c } = 0 := firstE_all (by
              have : coE { c with fr := eR b d c } = 0 := firstE_all (by
                have e1 : coR { c with fr := eR b d c } := ⟨⟨c1.1.1, by unfold tiR; simp only; omega⟩, c1.2⟩
                have e2 : eR b d c ≤ c.to := hsp.2
                simp [unl, e1, c2, c3, e2])
              simp [hbx, hdf, this])
            rw [iFV, if_pos ho] at y
            exact ⟨_, y, iF_before hI q0⟩
          have hstr : iF b d c = 2 → c.lim ≠ 10000 → cf_IsFree [eBx b, eBx d, .agg [I c.yl, I c.yh, I c.zl, I c.zh, I (c.lim + 1), I c.fr, I c.to]] = some (.tup [I 2, I 0]) := fun q0 q1 => by
            have y := x_IsFree b d { c with lim := c.lim + 1 }
            have ho : ocE b d { c with lim := c.lim + 1 } = 0 := firstE_all (by
              have : coE { c with lim := c.lim + 1 } = 0 := firstE_all (by
                have e1 : coR { c with lim := c.lim + 1 } := ⟨⟨⟨c1.1.1.1, by simp only; omega⟩, c1.1.2⟩, c1.2⟩
                simp [unl, e1, c2, c3, c4])
              simp [hbx, hdf, this])
            rw [iFV, if_pos ho, iF_more hI q0] at y
            exact y
          clear hin zz zc hmv2
          generalize iF b d c = n at *
          generalize eR b d c = e at *
          generalize cpV b d l = gq at *
          obtain ⟨gi, g⟩ := gq
          simp only at y3 hyes hno
          refine Cor.seq (Cor.run (addC_good g_awake (noC_good _)) (noHx_good _) hm ?_)
          simp +contextual -implicitDefEqProofs (maxSteps := 2000000) only [S_cr0, x_awake, eThen_normal, ruB, rh_no, Int.reduceLT, Int.reduceLE, Int.reduceAdd, Int.reduceSub, Int.reduceMul, Int.reduceNeg, Int.reduceToNat, Int.reduceEq, Int.reduceNe, Int.reduceTDiv, Int.reduceTMod, implies_true, putL, appN, appX, appC, Eng.Fi, reduceCtorEq, exists_eq_left', exists_eq_left, if_true, if_false, List.replicate, Nat.reduceAdd, Nat.reduceSub, Nat.reduceMul, Nat.reduceLeDiff, Nat.reduceLT, Nat.reduceEqDiff]
          refine Cor.seq (Cor.run (addC_good g_rFreeErr (noC_good _)) (noHx_good _) hm ?_)
          simp +contextual -implicitDefEqProofs (maxSteps := 2000000) only [y0, h0', h1', h2', h3', List.length_map, not_true_eq_false, eThen_normal, ruB, rh_no, Int.reduceLT, Int.reduceLE, Int.reduceAdd, Int.reduceSub, Int.reduceMul, Int.reduceNeg, Int.reduceToNat, Int.reduceEq, Int.reduceNe, Int.reduceTDiv, Int.reduceTMod, implies_true, putL, appN, appX, appC, Eng.Fi, reduceCtorEq, exists_eq_left', exists_eq_left, if_true, if_false, List.replicate, Nat.reduceAdd, Nat.reduceSub, Nat.reduceMul, Nat.reduceLeDiff, Nat.reduceLT, Nat.reduceEqDiff]
          refine Cor.seq (Cor.run (addC_good g_IsFree (noC_good _)) (noHx_good _) hm ?_)
          simp +contextual -implicitDefEqProofs (maxSteps := 2000000) only [y1, eThen_normal, ruB, rh_no, Int.reduceLT, Int.reduceLE, Int.reduceAdd, Int.reduceSub, Int.reduceMul, Int.reduceNeg, Int.reduceToNat, Int.reduceEq, Int.reduceNe, Int.reduceTDiv, Int.reduceTMod, implies_true, putL, appN, appX, appC, Eng.Fi, reduceCtorEq, exists_eq_left', exists_eq_left, if_true, if_false, List.replicate, Nat.reduceAdd, Nat.reduceSub, Nat.reduceMul, Nat.reduceLeDiff, Nat.reduceLT, Nat.reduceEqDiff]
          obtain ⟨t, f, y2', htf⟩ : ∃ t f : Int, cf_EarliestFree [eBx b, eBx d, eCo c] = some (.tup [I t, I f]) ∧ ((e = c.to ∧ t = 0 ∧ f = 12) ∨ (e ≠ c.to ∧ t = e + 1 ∧ f = 0)) := by
            by_cases he : e = c.to
            · rw [if_pos he] at y2
              exact ⟨0, 12, y2, .inl ⟨he, rfl, rfl⟩⟩
            · rw [if_neg he] at y2
              exact ⟨e + 1, 0, y2, .inr ⟨he, rfl, rfl⟩⟩
          clear y2
          refine Cor.seq (Cor.run (addC_good g_EarliestFree (noC_good _)) (noHx_good _) hm ?_)
          simp +contextual -implicitDefEqProofs (maxSteps := 2000000) only [y2', eThen_normal, ruB, rh_no, Int.reduceLT, Int.reduceLE, Int.reduceAdd, Int.reduceSub, Int.reduceMul, Int.reduceNeg, Int.reduceToNat, Int.reduceEq, Int.reduceNe, Int.reduceTDiv, Int.reduceTMod, implies_true, putL, appN, appX, appC, Eng.Fi, reduceCtorEq, exists_eq_left', exists_eq_left, if_true, if_false, List.replicate, Nat.reduceAdd, Nat.reduceSub, Nat.reduceMul, Nat.reduceLeDiff, Nat.reduceLT, Nat.reduceEqDiff]
          refine Cor.seq (Cor.run (addC_good g_CopyVortices (addC_good g_CheckPath (noC_good _))) (noHx_good _) hm ?_)
          simp +contextual -implicitDefEqProofs (maxSteps := 2000000) only [y3, y4, eThen_normal, ruB, rh_no, Int.reduceLT, Int.reduceLE, Int.reduceAdd, Int.reduceSub, Int.reduceMul, Int.reduceNeg, Int.reduceToNat, Int.reduceEq, Int.reduceNe, Int.reduceTDiv, Int.reduceTMod, implies_true, putL, appN, appX, appC, Eng.Fi, reduceCtorEq, exists_eq_left', exists_eq_left, if_true, if_false, List.replicate, Nat.reduceAdd, Nat.reduceSub, Nat.reduceMul, Nat.reduceLeDiff, Nat.reduceLT, Nat.reduceEqDiff]
          refine Cor.seqW (s2 := S_cr4 b d c l n t f g) ?_ ?_
          · refine Cor.run (noC_good _) (noHx_good _) hm ?_
            rcases htf with ⟨r1, r2, r3⟩ | ⟨r1, r2, r3⟩
            · have hn2 : (n = 2) = False := eq_false (by omega)
              have f0 : (f = 0) = False := eq_false (by omega)
              have f1 : (f = 12) = True := eq_true r3
              simp +contextual -implicitDefEqProofs (maxSteps := 2000000) only [hn2, f0, f1, eThen_normal, not_true_eq_false, not_false_eq_true, ruB, rh_no, Int.reduceLT, Int.reduceLE, Int.reduceAdd, Int.reduceSub, Int.reduceMul, Int.reduceNeg, Int.reduceToNat, Int.reduceEq, Int.reduceNe, Int.reduceTDiv, Int.reduceTMod, implies_true, putL, appN, appX, appC, Eng.Fi, reduceCtorEq, exists_eq_left', exists_eq_left, if_true, if_false, List.replicate, Nat.reduceAdd, Nat.reduceSub, Nat.reduceMul, Nat.reduceLeDiff, Nat.reduceLT, Nat.reduceEqDiff]
              exact Wkn.keep [3, 4, 5, 7, 9, 10, 12] rfl
            · have f0 : (f = 0) = True := eq_true r3
              by_cases hn : n = 2
              · have hn2 := eq_true hn
                have w0 : (t = c.fr) = True := eq_true (by omega)
                simp +contextual -implicitDefEqProofs (maxSteps := 2000000) only [hn2, f0, w0, eThen_normal, not_true_eq_false, ruB, rh_no, Int.reduceLT, Int.reduceLE, Int.reduceAdd, Int.reduceSub, Int.reduceMul, Int.reduceNeg, Int.reduceToNat, Int.reduceEq, Int.reduceNe, Int.reduceTDiv, Int.reduceTMod, implies_true, putL, appN, appX, appC, Eng.Fi, reduceCtorEq, exists_eq_left', exists_eq_left, if_true, if_false, List.replicate, Nat.reduceAdd, Nat.reduceSub, Nat.reduceMul, Nat.reduceLeDiff, Nat.reduceLT, Nat.reduceEqDiff]
                exact Wkn.keep [3, 4, 5, 7, 9, 10, 12] rfl
              · have hn2 := eq_false hn
                have w0 : (t = c.fr) = False := eq_false (by omega)
                simp +contextual -implicitDefEqProofs (maxSteps := 2000000) only [hn2, f0, w0, eThen_normal, not_true_eq_false, ruB, rh_no, Int.reduceLT, Int.reduceLE, Int.reduceAdd, Int.reduceSub, Int.reduceMul, Int.reduceNeg, Int.reduceToNat, Int.reduceEq, Int.reduceNe, Int.reduceTDiv, Int.reduceTMod, implies_true, putL, appN, appX, appC, Eng.Fi, reduceCtorEq, exists_eq_left', exists_eq_left, if_true, if_false, List.replicate, Nat.reduceAdd, Nat.reduceSub, Nat.reduceMul, Nat.reduceLeDiff, Nat.reduceLT, Nat.reduceEqDiff]
                exact Wkn.keep [3, 4, 5, 7, 9, 10, 12] rfl
          obtain ⟨q, hq⟩ : ∃ q : Bool, (q = true ↔ crP c l (c.to + 1)) := by
            by_cases hc : crP c l (c.to + 1)
            · exact ⟨true, by simp [hc]⟩
            · exact ⟨false, by simp [hc]⟩
          refine Cor.seq (Cor.run (noC_good _) (noHx_good _) hm ?_)
          simp +contextual -implicitDefEqProofs (maxSteps := 2000000) only [S_cr4, eThen_normal, ruB, rh_no, Int.reduceLT, Int.reduceLE, Int.reduceAdd, Int.reduceSub, Int.reduceMul, Int.reduceNeg, Int.reduceToNat, Int.reduceEq, Int.reduceNe, Int.reduceTDiv, Int.reduceTMod, implies_true, putL, appN, appX, appC, Eng.Fi, reduceCtorEq, exists_eq_left', exists_eq_left, if_true, if_false, List.replicate, Nat.reduceAdd, Nat.reduceSub, Nat.reduceMul, Nat.reduceLeDiff, Nat.reduceLT, Nat.reduceEqDiff]
          refine Cor.seqW (s2 := S_cr5 b d c l n t f g q) ?_ ?_
          · refine Cor.run (addC_good g_rHolds (addC_good g_rRegion (noC_good _))) (noHx_good _) hm ?_
            simp +contextual -implicitDefEqProofs (maxSteps := 2000000) only [ruB, rh_no, Int.reduceLT, Int.reduceLE, Int.reduceAdd, Int.reduceSub, Int.reduceMul, Int.reduceNeg, Int.reduceToNat, Int.reduceEq, Int.reduceNe, Int.reduceTDiv, Int.reduceTMod, implies_true, putL, appN, appX, appC, Eng.Fi, reduceCtorEq, exists_eq_left', exists_eq_left, if_true, if_false, List.replicate, Nat.reduceAdd, Nat.reduceSub, Nat.reduceMul, Nat.reduceLeDiff, Nat.reduceLT, Nat.reduceEqDiff]
            refine Cor.lp (addC_good g_rHolds (addC_good g_rRegion (noC_good _))) (noHx_good _) hm (fun p : Int × Bool => S_cr1 b d c l n t f g p.2 p.1) (fun p => (c.fr ≤ p.1 ∧ p.1 ≤ c.to + 1) ∧ (p.2 = true ↔ crP c l p.1)) (fun p => (c.to + 1 - p.1).toNat) (a := (c.fr, false)) ⟨⟨Int.le_refl _, by simp only; omega⟩, by
              simp only [Bool.false_eq_true, false_iff]
              rintro ⟨j, q1, q2, _⟩
              omega⟩ (Wkn.keep [3, 4, 5, 7, 9, 10, 12, 13, 14] rfl) ?_
            rintro ff ⟨k, qk⟩ ⟨⟨hk1, hk2⟩, hqk⟩ go
            simp only at hk1 hk2 hqk go ⊢
            by_cases g1 : k ≤ c.to
            · have g1' := eq_true g1
              by_cases g2 : k < (l.length : Int)
              · have g2' := eq_true g2
                have hlk : k.toNat < l.length := by omega
                have e4 : (l.map eVo)[k.toNat]? = some (eVo l[k.toNat]) := get_e eVo l hlk
                have e5 : (0 ≤ k) = True := eq_true (by omega)
                have wk1 : IntKind.wrap .i64 (k + 1) = k + 1 := wrap64 (by omega) (by omega)
                have y13 := x_rRegion c
                have y14 := x_rHolds (reG c) l[k.toNat]
                have hst := crP_s (c := c) (l := l) (k := k) (by omega) hk1 hlk
                generalize l[k.toNat] = u at *
                cases qk with
                | true =>
                  simp +contextual -implicitDefEqProofs (maxSteps := 2000000) only [S_cr1, wk1, g1', g2', List.length_map, ruB, rh_no, Int.reduceLT, Int.reduceLE, Int.reduceAdd, Int.reduceSub, Int.reduceMul, Int.reduceNeg, Int.reduceToNat, Int.reduceEq, Int.reduceNe, Int.reduceTDiv, Int.reduceTMod, implies_true, putL, appN, appX, appC, Eng.Fi, reduceCtorEq, exists_eq_left', exists_eq_left, if_true, if_false, List.replicate, Nat.reduceAdd, Nat.reduceSub, Nat.reduceMul, Nat.reduceLeDiff, Nat.reduceLT, Nat.reduceEqDiff]
                  exact go _ (k + 1, true) ⟨⟨by simp only; omega, by simp only; omega⟩, ⟨fun _ => hst.2 (.inl (hqk.1 rfl)), fun _ => rfl⟩⟩ (by simp only; omega) (Wkn.keep [3, 4, 5, 7, 9, 10, 12, 13, 14] rfl)
                | false =>
                  have hnc : ¬ crP c l k := fun q => by have := hqk.2 q; simp at this
                  by_cases hh : hoP (reG c) u
                  · rw [decide_eq_true hh] at y14
                    simp +contextual -implicitDefEqProofs (maxSteps := 2000000) only [S_cr1, wk1, g1', g2', e4, e5, y13, y14, List.length_map, ruB, rh_no, Int.reduceLT, Int.reduceLE, Int.reduceAdd, Int.reduceSub, Int.reduceMul, Int.reduceNeg, Int.reduceToNat, Int.reduceEq, Int.reduceNe, Int.reduceTDiv, Int.reduceTMod, implies_true, putL, appN, appX, appC, Eng.Fi, reduceCtorEq, exists_eq_left', exists_eq_left, if_true, if_false, List.replicate, Nat.reduceAdd, Nat.reduceSub, Nat.reduceMul, Nat.reduceLeDiff, Nat.reduceLT, Nat.reduceEqDiff]
                    exact go _ (k + 1, true) ⟨⟨by simp only; omega, by simp only; omega⟩, ⟨fun _ => hst.2 (.inr hh), fun _ => rfl⟩⟩ (by simp only; omega) (Wkn.keep [3, 4, 5, 7, 9, 10, 12, 13, 14] rfl)
                  · rw [decide_eq_false hh] at y14
                    simp +contextual -implicitDefEqProofs (maxSteps := 2000000) only [S_cr1, wk1, g1', g2', e4, e5, y13, y14, List.length_map, ruB, rh_no, Int.reduceLT, Int.reduceLE, Int.reduceAdd, Int.reduceSub, Int.reduceMul, Int.reduceNeg, Int.reduceToNat, Int.reduceEq, Int.reduceNe, Int.reduceTDiv, Int.reduceTMod, implies_true, putL, appN, appX, appC, Eng.Fi, reduceCtorEq, exists_eq_left', exists_eq_left, if_true, if_false, List.replicate, Nat.reduceAdd, Nat.reduceSub, Nat.reduceMul, Nat.reduceLeDiff, Nat.reduceLT, Nat.reduceEqDiff]
                    exact go _ (k + 1, false) ⟨⟨by simp only; omega, by simp only; omega⟩, ⟨fun q => by simp at q, fun q => ((hst.1 q).elim hnc hh).elim⟩⟩ (by simp only; omega) (Wkn.keep [3, 4, 5, 7, 9, 10, 12, 13, 14] rfl)
              · have g2' := eq_false g2
                have hqq : qk = q := by
                  have := crP_end (c := c) (l := l) (k := k) (k' := c.to + 1) (by omega) hk2
                  rw [this, ← hqk] at hq
                  cases qk <;> cases q <;> simp_all
                subst hqq
                simp +contextual -implicitDefEqProofs (maxSteps := 2000000) only [S_cr1, g1', g2', List.length_map, eThen_normal, ruB, rh_no, Int.reduceLT, Int.reduceLE, Int.reduceAdd, Int.reduceSub, Int.reduceMul, Int.reduceNeg, Int.reduceToNat, Int.reduceEq, Int.reduceNe, Int.reduceTDiv, Int.reduceTMod, implies_true, putL, appN, appX, appC, Eng.Fi, reduceCtorEq, exists_eq_left', exists_eq_left, if_true, if_false, List.replicate, Nat.reduceAdd, Nat.reduceSub, Nat.reduceMul, Nat.reduceLeDiff, Nat.reduceLT, Nat.reduceEqDiff]
                exact Wkn.keep [3, 4, 5, 7, 9, 10, 12, 13] rfl
            · have g1' := eq_false g1
              have ek : k = c.to + 1 := by omega
              have hqq : qk = q := by
                rw [ek, ← hq] at hqk
                cases qk <;> cases q <;> simp_all
              subst hqq
              simp +contextual -implicitDefEqProofs (maxSteps := 2000000) only [S_cr1, g1', List.length_map, eThen_normal, ruB, rh_no, Int.reduceLT, Int.reduceLE, Int.reduceAdd, Int.reduceSub, Int.reduceMul, Int.reduceNeg, Int.reduceToNat, Int.reduceEq, Int.reduceNe, Int.reduceTDiv, Int.reduceTMod, implies_true, putL, appN, appX, appC, Eng.Fi, reduceCtorEq, exists_eq_left', exists_eq_left, if_true, if_false, List.replicate, Nat.reduceAdd, Nat.reduceSub, Nat.reduceMul, Nat.reduceLeDiff, Nat.reduceLT, Nat.reduceEqDiff]
              exact Wkn.keep [3, 4, 5, 7, 9, 10, 12, 13] rfl
          refine Cor.seqW (s2 := S_cr2 b d c l n t f) ?_ ?_
          · refine Cor.run (noC_good _) (noHx_good _) hm ?_
            by_cases hg : g = 0
            · have hg' := eq_true hg
              by_cases hn : n = 2
              · have hn2 := eq_true hn
                have hn0 : (n = 0) = False := eq_false (by omega)
                have hqf : q = false := by
                  cases q with
                  | true => exact absurd (hq.1 rfl) (hyes hg hn)
                  | false => rfl
                subst hqf
                simp +contextual -implicitDefEqProofs (maxSteps := 2000000) only [S_cr5, hg', hn2, hn0, List.length_map, eThen_normal, not_true_eq_false, ruB, rh_no, Int.reduceLT, Int.reduceLE, Int.reduceAdd, Int.reduceSub, Int.reduceMul, Int.reduceNeg, Int.reduceToNat, Int.reduceEq, Int.reduceNe, Int.reduceTDiv, Int.reduceTMod, implies_true, putL, appN, appX, appC, Eng.Fi, reduceCtorEq, exists_eq_left', exists_eq_left, if_true, if_false, List.replicate, Nat.reduceAdd, Nat.reduceSub, Nat.reduceMul, Nat.reduceLeDiff, Nat.reduceLT, Nat.reduceEqDiff]
                exact Wkn.keep [3, 4, 5, 7, 9, 10] rfl
              · have hn2 := eq_false hn
                by_cases hn1 : n = 0
                · have hn0 := eq_true hn1
                  cases q with
                  | true =>
                    simp +contextual -implicitDefEqProofs (maxSteps := 2000000) only [S_cr5, hg', hn2, hn0, List.length_map, eThen_normal, not_true_eq_false, ruB, rh_no, Int.reduceLT, Int.reduceLE, Int.reduceAdd, Int.reduceSub, Int.reduceMul, Int.reduceNeg, Int.reduceToNat, Int.reduceEq, Int.reduceNe, Int.reduceTDiv, Int.reduceTMod, implies_true, putL, appN, appX, appC, Eng.Fi, reduceCtorEq, exists_eq_left', exists_eq_left, if_true, if_false, List.replicate, Nat.reduceAdd, Nat.reduceSub, Nat.reduceMul, Nat.reduceLeDiff, Nat.reduceLT, Nat.reduceEqDiff]
                    exact Wkn.keep [3, 4, 5, 7, 9, 10] rfl
                  | false =>
                    have hl2 : (c.to < (l.length : Int)) = False := eq_false fun q1 => by
                      have := hq.2 (hno hg hn1 q1)
                      simp at this
                    simp +contextual -implicitDefEqProofs (maxSteps := 2000000) only [S_cr5, hg', hn2, hn0, hl2, List.length_map, eThen_normal, not_true_eq_false, ruB, rh_no, Int.reduceLT, Int.reduceLE, Int.reduceAdd, Int.reduceSub, Int.reduceMul, Int.reduceNeg, Int.reduceToNat, Int.reduceEq, Int.reduceNe, Int.reduceTDiv, Int.reduceTMod, implies_true, putL, appN, appX, appC, Eng.Fi, reduceCtorEq, exists_eq_left', exists_eq_left, if_true, if_false, List.replicate, Nat.reduceAdd, Nat.reduceSub, Nat.reduceMul, Nat.reduceLeDiff, Nat.reduceLT, Nat.reduceEqDiff]
                    exact Wkn.keep [3, 4, 5, 7, 9, 10] rfl
                · have hn0 := eq_false hn1
                  simp +contextual -implicitDefEqProofs (maxSteps := 2000000) only [S_cr5, hg', hn2, hn0, List.length_map, eThen_normal, not_true_eq_false, ruB, rh_no, Int.reduceLT, Int.reduceLE, Int.reduceAdd, Int.reduceSub, Int.reduceMul, Int.reduceNeg, Int.reduceToNat, Int.reduceEq, Int.reduceNe, Int.reduceTDiv, Int.reduceTMod, implies_true, putL, appN, appX, appC, Eng.Fi, reduceCtorEq, exists_eq_left', exists_eq_left, if_true, if_false, List.replicate, Nat.reduceAdd, Nat.reduceSub, Nat.reduceMul, Nat.reduceLeDiff, Nat.reduceLT, Nat.reduceEqDiff]
                  exact Wkn.keep [3, 4, 5, 7, 9, 10] rfl
            · have hg' := eq_false hg
              simp +contextual -implicitDefEqProofs (maxSteps := 2000000) only [S_cr5, hg', List.length_map, eThen_normal, not_true_eq_false, ruB, rh_no, Int.reduceLT, Int.reduceLE, Int.reduceAdd, Int.reduceSub, Int.reduceMul, Int.reduceNeg, Int.reduceToNat, Int.reduceEq, Int.reduceNe, Int.reduceTDiv, Int.reduceTMod, implies_true, putL, appN, appX, appC, Eng.Fi, reduceCtorEq, exists_eq_left', exists_eq_left, if_true, if_false, List.replicate, Nat.reduceAdd, Nat.reduceSub, Nat.reduceMul, Nat.reduceLeDiff, Nat.reduceLT, Nat.reduceEqDiff]
              exact Wkn.keep [3, 4, 5, 7, 9, 10] rfl
          refine Cor.seqW (s2 := S_cr3 b d c l n) ?_ ?_
          · refine Cor.run (addC_good g_Within (addC_good g_IsFree (noC_good _))) (noHx_good _) hm ?_
            rcases htf with ⟨r1, r2, r3⟩ | ⟨r1, r2, r3⟩
            · have f0 : (f = 0) = False := eq_false (by omega)
              simp +contextual -implicitDefEqProofs (maxSteps := 2000000) only [S_cr2, f0, eThen_normal, not_true_eq_false, ruB, rh_no, Int.reduceLT, Int.reduceLE, Int.reduceAdd, Int.reduceSub, Int.reduceMul, Int.reduceNeg, Int.reduceToNat, Int.reduceEq, Int.reduceNe, Int.reduceTDiv, Int.reduceTMod, implies_true, putL, appN, appX, appC, Eng.Fi, reduceCtorEq, exists_eq_left', exists_eq_left, if_true, if_false, List.replicate, Nat.reduceAdd, Nat.reduceSub, Nat.reduceMul, Nat.reduceLeDiff, Nat.reduceLT, Nat.reduceEqDiff]
              exact Wkn.keep [3, 4, 5, 7] rfl
            · have f0 : (f = 0) = True := eq_true r3
              have y5 := hlat t (by omega) (by omega) (by omega)
              have y6 := x_Within t c.fr c.to
              rw [show decide (c.fr ≤ t ∧ t ≤ c.to) = true from decide_eq_true (by omega)] at y6
              by_cases hn : c.fr < t
              · have hn' := eq_true hn
                obtain ⟨m, y7, hm7⟩ := hbef (by omega)
                have hm7' := eq_false hm7
                have w1 : IntKind.wrap .i64 (t - 1) = e := by rw [wrap64 (by omega) (by omega)]; omega
                simp +contextual -implicitDefEqProofs (maxSteps := 2000000) only [S_cr2, f0, y5, y6, y7, hm7', hn', w1, eThen_normal, not_true_eq_false, ruB, rh_no, Int.reduceLT, Int.reduceLE, Int.reduceAdd, Int.reduceSub, Int.reduceMul, Int.reduceNeg, Int.reduceToNat, Int.reduceEq, Int.reduceNe, Int.reduceTDiv, Int.reduceTMod, implies_true, putL, appN, appX, appC, Eng.Fi, reduceCtorEq, exists_eq_left', exists_eq_left, if_true, if_false, List.replicate, Nat.reduceAdd, Nat.reduceSub, Nat.reduceMul, Nat.reduceLeDiff, Nat.reduceLT, Nat.reduceEqDiff]
                exact Wkn.to ⟨0, [], [], 0, [3, 4, 5, 7]⟩ rfl rfl (by simp [Wk.st, keepT, memN, Wk.fate, Wk.fate0, assoc, getE, Wk.hp, ABlk.sub, sub1, subs, S_cr3, free_Vo])
              · have hn' := eq_false hn
                simp +contextual -implicitDefEqProofs (maxSteps := 2000000) only [S_cr2, f0, y5, y6, hn', eThen_normal, not_true_eq_false, ruB, rh_no, Int.reduceLT, Int.reduceLE, Int.reduceAdd, Int.reduceSub, Int.reduceMul, Int.reduceNeg, Int.reduceToNat, Int.reduceEq, Int.reduceNe, Int.reduceTDiv, Int.reduceTMod, implies_true, putL, appN, appX, appC, Eng.Fi, reduceCtorEq, exists_eq_left', exists_eq_left, if_true, if_false, List.replicate, Nat.reduceAdd, Nat.reduceSub, Nat.reduceMul, Nat.reduceLeDiff, Nat.reduceLT, Nat.reduceEqDiff]
                exact Wkn.to ⟨0, [], [], 0, [3, 4, 5, 7]⟩ rfl rfl (by simp [Wk.st, keepT, memN, Wk.fate, Wk.fate0, assoc, getE, Wk.hp, ABlk.sub, sub1, subs, S_cr3, free_Vo])
          refine Cor.run (addC_good g_IsFree (noC_good _)) (noHx_good _) hm ?_
          by_cases hn : n = 2
          · have hn' := eq_true hn
            by_cases hl5 : c.lim = 10000
            · have hl5' := eq_true hl5
              simp +contextual -implicitDefEqProofs (maxSteps := 2000000) only [S_cr3, hn', hl5', not_true_eq_false, ruB, rh_no, Int.reduceLT, Int.reduceLE, Int.reduceAdd, Int.reduceSub, Int.reduceMul, Int.reduceNeg, Int.reduceToNat, Int.reduceEq, Int.reduceNe, Int.reduceTDiv, Int.reduceTMod, implies_true, putL, appN, appX, appC, Eng.Fi, reduceCtorEq, exists_eq_left', exists_eq_left, if_true, if_false, List.replicate, Nat.reduceAdd, Nat.reduceSub, Nat.reduceMul, Nat.reduceLeDiff, Nat.reduceLT, Nat.reduceEqDiff]
            · have hl5' := eq_false hl5
              have y8 := hstr hn hl5
              have w2 : IntKind.wrap .i64 (c.lim + 1) = c.lim + 1 := wrap64 (by omega) (by omega)
              simp +contextual -implicitDefEqProofs (maxSteps := 2000000) only [S_cr3, hn', hl5', y8, w2, not_true_eq_false, ruB, rh_no, Int.reduceLT, Int.reduceLE, Int.reduceAdd, Int.reduceSub, Int.reduceMul, Int.reduceNeg, Int.reduceToNat, Int.reduceEq, Int.reduceNe, Int.reduceTDiv, Int.reduceTMod, implies_true, putL, appN, appX, appC, Eng.Fi, reduceCtorEq, exists_eq_left', exists_eq_left, if_true, if_false, List.replicate, Nat.reduceAdd, Nat.reduceSub, Nat.reduceMul, Nat.reduceLeDiff, Nat.reduceLT, Nat.reduceEqDiff]
          · have hn' := eq_false hn
            simp +contextual -implicitDefEqProofs (maxSteps := 2000000) only [S_cr3, hn', not_false_eq_true, ruB, rh_no, Int.reduceLT, Int.reduceLE, Int.reduceAdd, Int.reduceSub, Int.reduceMul, Int.reduceNeg, Int.reduceToNat, Int.reduceEq, Int.reduceNe, Int.reduceTDiv, Int.reduceTMod, implies_true, putL, appN, appX, appC, Eng.Fi, reduceCtorEq, exists_eq_left', exists_eq_left, if_true, if_false, List.replicate, Nat.reduceAdd, Nat.reduceSub, Nat.reduceMul, Nat.reduceLeDiff, Nat.reduceLT, Nat.reduceEqDiff]
  · have h0' := eq_false h0
    refine Cor.run (addC_good g_rFreeErr (addC_good g_awake (noC_good _))) (noHx_good _) hm ?_
    simp +contextual -implicitDefEqProofs (maxSteps := 2000000) only [S_cr0, x_awake, y0, h0', List.length_map, not_true_eq_false, not_false_eq_true, ruB, rh_no, Int.reduceLT, Int.reduceLE, Int.reduceAdd, Int.reduceSub, Int.reduceMul, Int.reduceNeg, Int.reduceToNat, Int.reduceEq, Int.reduceNe, Int.reduceTDiv, Int.reduceTMod, implies_true, putL, appN, appX, appC, Eng.Fi, reduceCtorEq, exists_eq_left', exists_eq_left, if_true, if_false, List.replicate, Nat.reduceAdd, Nat.reduceSub, Nat.reduceMul, Nat.reduceLeDiff, Nat.reduceLT, Nat.reduceEqDiff]
end Wa
open Go Go.Proofs Eng
set_option maxRecDepth 100000
set_option linter.unusedSimpArgs false
set_option linter.unusedVariables false
namespace Wa
theorem arFlownW {n : Nat} {u : AV} (h : ArG P n 43 u) : ∃ (b : Bx) (l : List Vo), u = FLw b l ∧ l.length ≤ maxLen := by
  obtain ⟨us, rfl, hh⟩ := h.agg 6 (ks := [.i, .i, .i, .i, .i, .i, .sl true [.i, .i, .i]]) (by kernel_rfl) (by kernel_rfl)
  simp only [ShV, ShV1] at hh
  obtain ⟨_, _, rfl, ⟨a, rfl, _⟩, _, _, rfl, ⟨b, rfl, _⟩, _, _, rfl, ⟨c, rfl, _⟩, _, _, rfl, ⟨d, rfl, _⟩, _, _, rfl, ⟨e, rfl, _⟩, _, _, rfl, ⟨f, rfl, _⟩, _, _, rfl, ⟨l, rfl, hl, hlen⟩, rfl⟩ := hh
  obtain ⟨gs, e1, e2⟩ := sl_enc (α := Vo) eVo (ag := true) (fun p hp => by
    obtain ⟨_, _, rfl, ⟨a, rfl, _⟩, _, _, rfl, ⟨b, rfl, _⟩, _, _, rfl, ⟨c, rfl, _⟩, rfl⟩ := hp
    exact ⟨⟨a, b, c⟩, rfl⟩) hl
  rw [e1]
  exact ⟨⟨a, b, c, d, e, f⟩, gs, rfl, by rw [e2]; exact hlen⟩
theorem law4 (n0 : Nat) (u0 : AV) (a0 : ArG P n0 43 u0) (n1 : Nat) (u1 : AV) (a1 : ArG P n1 45 u1) (n2 : Nat) (u2 : AV) (a2 : ArG P n2 47 u2) : FOk P 4 [u0, u1, u2] (.bool true) := by
  obtain ⟨b, l, rfl, hl⟩ := arFlownW a0
  obtain ⟨d, rfl⟩ := arDrift a1
  obtain ⟨c, rfl⟩ := arCorridor a2
  exact k_WakeCrossed b d c l hl
end Wa
