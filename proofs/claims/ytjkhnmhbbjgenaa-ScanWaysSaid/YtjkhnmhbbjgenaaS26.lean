import Derived.Test.YtjkhnmhbbjgenaaEngS9
import Derived.Test.YtjkhnmhbbjgenaaS25
open Go Go.Proofs Eng
set_option maxRecDepth 100000
set_option linter.unusedSimpArgs false
set_option linter.unusedVariables false
def a14 : AC := .seq (.ops false [] [⟨some 3, .box 42 7 1 true, [.t 0], none⟩, ⟨some 4, .box 37 2 1 true, [.t 1], none⟩, ⟨some 5, .box 37 2 1 true, [.t 2], none⟩, ⟨some 6, .p (.mov), [.c (.bool false)], none⟩]) (.seq (.seq (.ops false [] [⟨some 24, .call 15, [], none⟩, ⟨some 25, .p (.notB), [.t 24], none⟩]) (.cond (.t 25) (.seq (.ops false [] [⟨some 6, .p (.mov), [.c (.bool false)], none⟩]) (.ret)) (.skip))) (.seq (.seq (.ops false [] [⟨some 26, .load 7 true, [.t 3], none⟩, ⟨some 27, .call 23, [.t 26], none⟩, ⟨some 28, .p (.notB), [.t 27], none⟩, ⟨some 29, .p (.mov), [.t 28], none⟩, ⟨some 30, .load 7 true, [.t 3], some (29, false)⟩, ⟨some 31, .call 28, [.t 30], some (29, false)⟩, ⟨some 32, .p (.binI .neq), [.t 31, .c (.int .i64 0)], some (29, false)⟩, ⟨some 33, .p (.pick), [.t 29, .c (.bool true), .t 32], none⟩, ⟨some 34, .p (.mov), [.t 33], none⟩, ⟨some 35, .load 2 true, [.t 4], some (34, false)⟩, ⟨some 36, .call 44, [.t 35], some (34, false)⟩, ⟨some 37, .p (.binI .neq), [.t 36, .c (.int .i64 0)], some (34, false)⟩, ⟨some 38, .p (.pick), [.t 34, .c (.bool true), .t 37], none⟩, ⟨some 39, .p (.mov), [.t 38], none⟩, ⟨some 40, .load 2 true, [.t 5], some (39, false)⟩, ⟨some 41, .call 44, [.t 40], some (39, false)⟩, ⟨some 42, .p (.binI .neq), [.t 41, .c (.int .i64 0)], some (39, false)⟩, ⟨some 43, .p (.pick), [.t 39, .c (.bool true), .t 42], none⟩]) (.cond (.t 43) (.seq (.ops false [] [⟨some 6, .p (.mov), [.c (.bool true)], none⟩]) (.ret)) (.skip))) (.seq (.ops false [] [⟨some 45, .load 2 true, [.t 4], none⟩, ⟨some 46, .load 2 true, [.t 5], none⟩, ⟨some 47, .call 67, [.t 45, .t 46], none⟩, ⟨some 44, .p (.mov), [.t 47], none⟩, ⟨some 48, .p (.ext 0), [.t 44], none⟩, ⟨some 49, .p (.ext 1), [.t 44], none⟩, ⟨some 7, .p (.mov), [.t 48], none⟩, ⟨some 8, .p (.mov), [.t 49], none⟩]) (.seq (.ops false [] [⟨some 51, .load 2 true, [.t 5], none⟩, ⟨some 52, .load 2 true, [.t 4], none⟩, ⟨some 53, .call 67, [.t 51, .t 52], none⟩, ⟨some 50, .p (.mov), [.t 53], none⟩, ⟨some 54, .p (.ext 0), [.t 50], none⟩, ⟨some 55, .p (.ext 1), [.t 50], none⟩, ⟨some 9, .p (.mov), [.t 54], none⟩, ⟨some 10, .p (.mov), [.t 55], none⟩]) (.seq (.seq (.ops true [] [⟨some 56, .p (.mov), [.t 8], none⟩, ⟨some 57, .p (.binI .neq), [.t 56, .c (.int .i64 0)], none⟩, ⟨some 58, .p (.mov), [.t 57], none⟩, ⟨some 59, .p (.mov), [.t 10], some (58, false)⟩, ⟨some 60, .p (.binI .neq), [.t 59, .c (.int .i64 0)], some (58, false)⟩, ⟨some 61, .p (.pick), [.t 58, .c (.bool true), .t 60], none⟩, ⟨some 62, .p (.mov), [.t 61], none⟩, ⟨some 63, .p (.mov), [.t 7], some (62, false)⟩, ⟨some 64, .p (.lenS), [.t 63], some (62, false)⟩, ⟨some 65, .p (.binI .eql), [.t 64, .c (.int .i64 0)], some (62, false)⟩, ⟨some 66, .p (.pick), [.t 62, .c (.bool true), .t 65], none⟩, ⟨some 67, .p (.mov), [.t 66], none⟩, ⟨some 68, .p (.mov), [.t 7], some (67, false)⟩, ⟨some 69, .p (.lenS), [.t 68], some (67, false)⟩, ⟨some 70, .p (.binI .gtr), [.t 69, .c (.int .i64 300)], some (67, false)⟩, ⟨some 71, .p (.pick), [.t 67, .c (.bool true), .t 70], none⟩, ⟨some 72, .p (.mov), [.t 71], none⟩, ⟨some 73, .p (.mov), [.t 9], some (72, false)⟩, ⟨some 74, .p (.lenS), [.t 73], some (72, false)⟩, ⟨some 75, .p (.mov), [.t 7], some (72, false)⟩, ⟨some 76, .p (.lenS), [.t 75], some (72, false)⟩, ⟨some 77, .p (.binI .neq), [.t 74, .t 76], some (72, false)⟩, ⟨some 78, .p (.pick), [.t 72, .c (.bool true), .t 77], none⟩, ⟨some 79, .p (.mov), [.t 78], none⟩, ⟨some 80, .p (.mov), [.t 7], some (79, false)⟩, ⟨some 81, .p (.iaddrS 2), [.t 80, .c (.int .i64 0)], some (79, false)⟩, ⟨some 82, .load 2 true, [.t 81], some (79, false)⟩, ⟨some 83, .load 2 true, [.t 4], some (79, false)⟩, ⟨some 84, .p (.eqa true [.i, .i]), [.t 82, .t 83], some (79, false)⟩, ⟨some 85, .p (.pick), [.t 79, .c (.bool true), .t 84], none⟩, ⟨some 86, .p (.mov), [.t 85], none⟩, ⟨some 87, .p (.mov), [.t 7], some (86, false)⟩, ⟨some 88, .p (.mov), [.t 7], some (86, false)⟩, ⟨some 89, .p (.lenS), [.t 88], some (86, false)⟩, ⟨some 90, .p (.binI .sub), [.t 89, .c (.int .i64 1)], some (86, false)⟩, ⟨some 91, .p (.iaddrS 2), [.t 87, .t 90], some (86, false)⟩, ⟨some 92, .load 2 true, [.t 91], some (86, false)⟩, ⟨some 93, .load 2 true, [.t 5], some (86, false)⟩, ⟨some 94, .p (.eqa true [.i, .i]), [.t 92, .t 93], some (86, false)⟩, ⟨some 95, .p (.pick), [.t 86, .c (.bool true), .t 94], none⟩]) (.cond (.t 95) (.seq (.ops false [] [⟨some 6, .p (.mov), [.c (.bool false)], none⟩]) (.ret)) (.skip))) (.seq (.ops false [] [⟨some 11, .p (.mov), [.c (.int .i64 0)], none⟩, ⟨some 12, .p (.mov), [.c (.bool true)], none⟩]) (.seq (.seq (.ops false [] [⟨some 13, .p (.mov), [.c (.int .i64 0)], none⟩]) (.block 0 (.loop (.seq (.seq (.ops false [] [⟨some 96, .p (.mov), [.t 13], none⟩, ⟨some 97, .p (.mov), [.t 7], none⟩, ⟨some 98, .p (.lenS), [.t 97], none⟩, ⟨some 99, .p (.binI .lss), [.t 96, .t 98], none⟩]) (.cond (.t 99) (.skip) (.exit 0))) (.seq (.block 1 (.seq (.seq (.ops false [] [⟨some 102, .p (.mov), [.t 7], none⟩, ⟨some 103, .p (.mov), [.t 13], none⟩, ⟨some 104, .p (.iaddrS 2), [.t 102, .t 103], none⟩, ⟨some 105, .load 2 true, [.t 104], none⟩, ⟨some 106, .call 44, [.t 105], none⟩, ⟨some 107, .p (.binI .neq), [.t 106, .c (.int .i64 0)], none⟩]) (.cond (.t 107) (.seq (.ops false [] [⟨some 6, .p (.mov), [.c (.bool false)], none⟩]) (.ret)) (.skip))) (.seq (.ops true [] [⟨some 109, .load 7 true, [.t 3], none⟩, ⟨some 110, .call 25, [.t 109], none⟩, ⟨some 111, .p (.mov), [.t 7], none⟩, ⟨some 112, .p (.mov), [.t 13], none⟩, ⟨some 113, .p (.iaddrS 2), [.t 111, .t 112], none⟩, ⟨some 114, .load 2 true, [.t 113], none⟩, ⟨some 115, .call 42, [.t 110, .t 114], none⟩, ⟨some 108, .p (.mov), [.t 115], none⟩, ⟨some 116, .p (.ext 0), [.t 108], none⟩, ⟨some 117, .p (.ext 1), [.t 108], none⟩, ⟨some 14, .p (.mov), [.t 116], none⟩, ⟨some 15, .p (.mov), [.t 117], none⟩]) (.seq (.seq (.ops false [] [⟨some 118, .p (.mov), [.t 15], none⟩, ⟨some 119, .p (.binI .neq), [.t 118, .c (.int .i64 0)], none⟩]) (.cond (.t 119) (.seq (.ops false [] [⟨some 6, .p (.mov), [.c (.bool false)], none⟩]) (.ret)) (.skip))) (.seq (.ops false [] [⟨some 120, .p (.mov), [.t 12], none⟩, ⟨some 121, .p (.mov), [.t 120], none⟩, ⟨some 122, .p (.mov), [.t 14], some (121, true)⟩, ⟨some 123, .p (.notB), [.t 122], some (121, true)⟩, ⟨some 124, .p (.pick), [.t 121, .t 123, .c (.bool false)], none⟩, ⟨some 12, .p (.mov), [.t 124], none⟩]) (.seq (.seq (.ops false [] [⟨some 125, .p (.mov), [.t 13], none⟩, ⟨some 126, .p (.binI .eql), [.t 125, .c (.int .i64 0)], none⟩]) (.cond (.t 126) (.exit 1) (.skip))) (.seq (.ops true [] [⟨some 127, .p (.mov), [.t 7], none⟩, ⟨some 128, .p (.mov), [.t 13], none⟩, ⟨some 129, .p (.iaddrS 2), [.t 127, .t 128], none⟩, ⟨some 130, .p (.faddr 0), [.t 129], none⟩, ⟨some 131, .load 1 false, [.t 130], none⟩, ⟨some 132, .p (.mov), [.t 7], none⟩, ⟨some 133, .p (.mov), [.t 13], none⟩, ⟨some 134, .p (.binI .sub), [.t 133, .c (.int .i64 1)], none⟩, ⟨some 135, .p (.iaddrS 2), [.t 132, .t 134], none⟩, ⟨some 136, .p (.faddr 0), [.t 135], none⟩, ⟨some 137, .load 1 false, [.t 136], none⟩, ⟨some 138, .p (.binI .sub), [.t 131, .t 137], none⟩, ⟨some 139, .call 46, [.t 138, .c (.int .i64 360)], none⟩, ⟨some 16, .p (.mov), [.t 139], none⟩]) (.seq (.ops true [] [⟨some 140, .p (.mov), [.t 7], none⟩, ⟨some 141, .p (.mov), [.t 13], none⟩, ⟨some 142, .p (.iaddrS 2), [.t 140, .t 141], none⟩, ⟨some 143, .p (.faddr 1), [.t 142], none⟩, ⟨some 144, .load 1 false, [.t 143], none⟩, ⟨some 145, .p (.mov), [.t 7], none⟩, ⟨some 146, .p (.mov), [.t 13], none⟩, ⟨some 147, .p (.binI .sub), [.t 146, .c (.int .i64 1)], none⟩, ⟨some 148, .p (.iaddrS 2), [.t 145, .t 147], none⟩, ⟨some 149, .p (.faddr 1), [.t 148], none⟩, ⟨some 150, .load 1 false, [.t 149], none⟩, ⟨some 151, .p (.binI .sub), [.t 144, .t 150], none⟩, ⟨some 17, .p (.mov), [.t 151], none⟩]) (.seq (.ops false [] [⟨some 152, .p (.mov), [.t 17], none⟩, ⟨some 153, .p (.binI .eql), [.t 152, .c (.int .i64 0)], none⟩, ⟨some 154, .p (.mov), [.t 153], none⟩, ⟨some 155, .p (.mov), [.t 16], some (154, true)⟩, ⟨some 156, .p (.binI .eql), [.t 155, .c (.int .i64 1)], some (154, true)⟩, ⟨some 157, .p (.mov), [.t 156], some (154, true)⟩, ⟨some 158, .p (.mov), [.t 16], some (157, false)⟩, ⟨some 159, .p (.binI .eql), [.t 158, .c (.int .i64 359)], some (157, false)⟩, ⟨some 160, .p (.pick), [.t 157, .c (.bool true), .t 159], some (154, true)⟩, ⟨some 161, .p (.pick), [.t 154, .t 160, .c (.bool false)], none⟩]) (.cond (.t 161) (.ops false [] [⟨some 162, .p (.mov), [.t 11], none⟩, ⟨some 163, .p (.binI .add), [.t 162, .c (.int .i64 1)], none⟩, ⟨some 11, .p (.mov), [.t 163], none⟩]) (.seq (.ops false [] [⟨some 164, .p (.mov), [.t 16], none⟩, ⟨some 165, .p (.binI .neq), [.t 164, .c (.int .i64 0)], none⟩, ⟨some 166, .p (.mov), [.t 165], none⟩, ⟨some 167, .p (.mov), [.t 17], some (166, false)⟩, ⟨some 168, .p (.binI .neq), [.t 167, .c (.int .i64 1)], some (166, false)⟩, ⟨some 169, .p (.mov), [.t 168], some (166, false)⟩, ⟨some 170, .p (.mov), [.t 17], some (169, true)⟩, ⟨some 171, .p (.binI .neq), [.t 170, .c (.int .i64 (-1))], some (169, true)⟩, ⟨some 172, .p (.pick), [.t 169, .t 171, .c (.bool false)], some (166, false)⟩, ⟨some 173, .p (.pick), [.t 166, .c (.bool true), .t 172], none⟩]) (.cond (.t 173) (.seq (.ops false [] [⟨some 6, .p (.mov), [.c (.bool false)], none⟩]) (.ret)) (.skip))))))))))))) (.ops false [] [⟨some 100, .p (.mov), [.t 13], none⟩, ⟨some 101, .p (.binI .add), [.t 100, .c (.int .i64 1)], none⟩, ⟨some 13, .p (.mov), [.t 101], none⟩])))))) (.seq (.ops true [] [⟨some 175, .load 7 true, [.t 3], none⟩, ⟨some 176, .call 25, [.t 175], none⟩, ⟨some 177, .load 2 true, [.t 4], none⟩, ⟨some 178, .load 2 true, [.t 5], none⟩, ⟨some 179, .call 47, [.t 176, .t 177, .t 178], none⟩, ⟨some 174, .p (.mov), [.t 179], none⟩, ⟨some 180, .p (.ext 0), [.t 174], none⟩, ⟨some 181, .p (.ext 1), [.t 174], none⟩, ⟨some 18, .p (.mov), [.t 180], none⟩, ⟨some 19, .p (.mov), [.t 181], none⟩]) (.seq (.ops true [] [⟨some 183, .load 7 true, [.t 3], none⟩, ⟨some 184, .call 25, [.t 183], none⟩, ⟨some 185, .load 2 true, [.t 5], none⟩, ⟨some 186, .load 2 true, [.t 4], none⟩, ⟨some 187, .call 47, [.t 184, .t 185, .t 186], none⟩, ⟨some 182, .p (.mov), [.t 187], none⟩, ⟨some 188, .p (.ext 0), [.t 182], none⟩, ⟨some 189, .p (.ext 1), [.t 182], none⟩, ⟨some 20, .p (.mov), [.t 188], none⟩, ⟨some 21, .p (.mov), [.t 189], none⟩]) (.seq (.ops true [] [⟨some 191, .load 7 true, [.t 3], none⟩, ⟨some 192, .call 25, [.t 191], none⟩, ⟨some 193, .load 2 true, [.t 4], none⟩, ⟨some 194, .load 2 true, [.t 5], none⟩, ⟨some 195, .call 48, [.t 192, .t 193, .t 194], none⟩, ⟨some 190, .p (.mov), [.t 195], none⟩, ⟨some 196, .p (.ext 0), [.t 190], none⟩, ⟨some 197, .p (.ext 1), [.t 190], none⟩, ⟨some 22, .p (.mov), [.t 196], none⟩, ⟨some 23, .p (.mov), [.t 197], none⟩]) (.seq (.ops false [] [⟨some 198, .p (.mov), [.t 19], none⟩, ⟨some 199, .p (.binI .eql), [.t 198, .c (.int .i64 0)], none⟩, ⟨some 200, .p (.mov), [.t 199], none⟩, ⟨some 201, .p (.mov), [.t 21], some (200, true)⟩, ⟨some 202, .p (.binI .eql), [.t 201, .c (.int .i64 0)], some (200, true)⟩, ⟨some 203, .p (.pick), [.t 200, .t 202, .c (.bool false)], none⟩, ⟨some 204, .p (.mov), [.t 203], none⟩, ⟨some 205, .p (.mov), [.t 18], some (204, true)⟩, ⟨some 206, .p (.mov), [.t 20], some (204, true)⟩, ⟨some 207, .p (.binI .eql), [.t 205, .t 206], some (204, true)⟩, ⟨some 208, .p (.pick), [.t 204, .t 207, .c (.bool false)], none⟩, ⟨some 209, .p (.mov), [.t 208], none⟩, ⟨some 210, .p (.mov), [.t 11], some (209, true)⟩, ⟨some 211, .p (.binI .mul), [.c (.int .i64 2), .t 210], some (209, true)⟩, ⟨some 212, .p (.binI .leq), [.t 211, .c (.int .i64 360)], some (209, true)⟩, ⟨some 213, .p (.pick), [.t 209, .t 212, .c (.bool false)], none⟩, ⟨some 214, .p (.mov), [.t 213], none⟩, ⟨some 215, .p (.mov), [.t 23], some (214, true)⟩, ⟨some 216, .p (.binI .eql), [.t 215, .c (.int .i64 0)], some (214, true)⟩, ⟨some 217, .p (.pick), [.t 214, .t 216, .c (.bool false)], none⟩, ⟨some 218, .p (.mov), [.t 217], none⟩, ⟨some 219, .p (.mov), [.t 22], some (218, true)⟩, ⟨some 220, .p (.mov), [.t 12], some (218, true)⟩, ⟨some 221, .p (.eqB false), [.t 219, .t 220], some (218, true)⟩, ⟨some 222, .p (.pick), [.t 218, .t 221, .c (.bool false)], none⟩, ⟨some 6, .p (.mov), [.t 222], none⟩]) (.ret))))))))))))
theorem c14 : FnC Try.prog 14 223 a14 [.tmp 6] := ⟨Try.call14, _, _, Try.func14, rfl, by kernel_rfl, by kernel_rfl, rfl⟩
namespace Sc
/-! there and back -/
def azS (p d : Dr) : Prop := d.el - p.el = 0 ∧ ((d.az - p.az) % 360 = 1 ∨ (d.az - p.az) % 360 = 359)
def elS (p d : Dr) : Prop := (d.az - p.az) % 360 = 0 ∧ (d.el - p.el = 1 ∨ d.el - p.el = -1)
instance (p d : Dr) : Decidable (azS p d) := by unfold azS; infer_instance
instance (p d : Dr) : Decidable (elS p d) := by unfold elS; infer_instance
/-- how many of the steps turn; none: a step is wrong -/
def cntW : Dr → List Dr → Option Nat
  | _, [] => some 0
  | p, d :: r => if azS p d then (cntW d r).map (· + 1) else if elS p d then cntW d r else none
theorem cnt2 (b : Dr) : ∀ (n : Nat) (d : Dr), (tiltN d.el b.el).toNat = n → d.az = b.az → cntW d (wL2 d b) = some 0 ∧ (d :: wL2 d b).getLast? = some b
  | n, d, hn, hz => by
    by_cases he : d.el = b.el
    · rw [wL2_end he]
      refine ⟨rfl, ?_⟩
      cases d; cases b
      simp only at he hz
      subst he hz; rfl
    · obtain ⟨m, k1, k2, k3⟩ := tilt_step he
      have hs := wL2_step (b := b) he
      obtain ⟨h1, h2⟩ := cnt2 b m ⟨d.az, d.el + tiltS d.el b.el⟩ (by simp only; omega) hz
      rw [hs, cntW, if_neg (fun h => by have := h.1; simp only at this; rcases tiltS_v d.el b.el with e | e <;> rw [e] at this <;> omega)]
      rw [if_pos ⟨by simp only; omega, by simp only; rcases tiltS_v d.el b.el with e | e <;> rw [e] <;> omega⟩]
      refine ⟨h1, ?_⟩
      rw [List.getLast?_cons_cons]; exact h2
  termination_by n => n
  decreasing_by all_goals omega
theorem cnt1 (b : Dr) (hb : azR b.az) : ∀ (n : Nat) (d : Dr), (turnN d.az b.az).toNat = n → azR d.az → cntW d (wL1 d b) = some n ∧ (d :: wL1 d b).getLast? = some b
  | n, d, hn, hd => by
    by_cases he : d.az = b.az
    · rw [wL1_end hb he]
      have : n = 0 := by rw [← hn, he]; unfold turnN upw; split <;> omega
      subst this
      exact cnt2 b _ d rfl he
    · obtain ⟨m, k1, k2, k3, k4⟩ := turn_step hd hb he
      obtain ⟨s1, s2⟩ := wL1_step hd hb he
      obtain ⟨h1, h2⟩ := cnt1 b hb m ⟨nAz (turnS d.az b.az) d.az, d.el⟩ (by simp only; omega) s1
      have hd' := hd
      unfold azR at hd'
      rw [s2, cntW, if_pos ⟨by simp only; omega, by simp only; unfold nAz upw; rcases turnS_v d.az b.az with e | e <;> rw [e] <;> omega⟩, h1]
      refine ⟨by simp only [Option.map_some, Option.some.injEq]; omega, ?_⟩
      rw [List.getLast?_cons_cons]; exact h2
  termination_by n => n
  decreasing_by all_goals omega
theorem turnN_sym (a b : Int) : turnN a b = turnN b a := by unfold turnN upw; split <;> split <;> omega
theorem tiltN_sym (a b : Int) : tiltN a b = tiltN b a := by unfold tiltN; split <;> split <;> omega
theorem turnN_half (a b : Int) : 2 * turnN a b ≤ 360 := by unfold turnN upw; split <;> omega
theorem wayL_len' (a b : Dr) : (wayL a b).length = 1 + wN1 a b + wN2 a b := by
  rw [wayL, List.length_cons, List.length_append, azL_len, elL_len]; omega
theorem wayL_sym (a b : Dr) : (wayL a b).length = (wayL b a).length := by
  rw [wayL_len', wayL_len', wN1, wN1, wN2, wN2, turnN_sym a.az, tiltN_sym a.el]
theorem mvT_sym (h : Hd) (a b : Dr) : mvT h a b = mvT h b a := by
  unfold mvT; rw [turnN_sym a.az, tiltN_sym a.el]
theorem mvE_ok {h : Hd} {a b : Dr} (c : hdE h = 0) (za : drE a = 0) (zb : drE b = 0) : mvE h a b = 0 := by
  unfold mvE; simp only [firstE, c, za, zb, if_true]
def S14 (h : Hd) (a b : Dr) (l : List Dr) (q : Bool) (p : Nat × Nat × Bool) : AState := ⟨[.any, .any, .any, .ptr 0 7 0 0, .ptr 1 2 0 0, .ptr 2 2 0 0, .any, .vs (l.map eDr), .any, .any, .any, I p.2.1, .bool p.2.2, I p.1, .any, .any, .any, .any, .any, .any, .any, .any, .any, .any, .any, .any, .any, .any, .any, .any, .any, .any, .any, .any, .any, .any, .any, .any, .any, .any, .any, .any, .any, .any, .any, .any, .any, .any, .any, .any, .any, .any, .any, .any, .any, .any, .any, .any, .any, .any, .any, .any, .any, .any, .any, .any, .any, .any, .any, .any, .any, .any, .any, .any, .any, .any, .any, .any, .any, .any, .any, .any, .any, .any, .any, .any, .any, .any, .any, .any, .any, .any, .any, .any, .any, .any, .any, .any, .any, .any, .any, .any, .any, .any, .any, .any, .any, .any, .any, .any, .any, .any, .any, .any, .any, .any, .any, .any, .any, .any, .any, .any, .any, .any, .any, .any, .any, .any, .any, .any, .any, .any, .any, .any, .any, .any, .any, .any, .any, .any, .any, .any, .any, .any, .any, .any, .any, .any, .any, .any, .any, .any, .any, .any, .any, .any, .any, .any, .any, .any, .any, .any, .any, .any, .any, .any, .any, .any, .any, .any, .any, .any, .any, .any, .any, .any, .any, .any, .any, .any, .any, .any, .any, .any, .any, .any, .any, .any, .any, .any, .any, .any, .any, .any, .any, .any, .any, .any, .any, .any, .any, .any, .any, .any, .any, .any, .any, .any, .any, .any, .any, .any, .any, .any, .any, .any, .any, .any, .any, .any, .any, .any, .any], [⟨2, 2, .rows 37 2 [eDr b]⟩, ⟨1, 1, .rows 37 2 [eDr a]⟩, ⟨0, 0, .rows 42 7 [eHd h]⟩], 3⟩
/-- at index i so many steps have been turned -/
def inW (l : List Dr) (N : Nat) (i t : Nat) : Prop := (i = 0 ∧ t = 0) ∨ ∃ (k : Nat) (y : Dr), l[i - 1]? = some y ∧ 0 < i ∧ cntW y (l.drop i) = some k ∧ t + k = N
theorem find_none_drop {f : Dr → Bool} {l : List Dr} : (l.find? f).isNone = l.all fun d => !f d := by
  induction l with
  | nil => rfl
  | cons d r ih =>
    rw [List.find?_cons, List.all_cons]
    cases h : f d with
    | true => rfl
    | false => simp only [ih, Bool.not_false, Bool.true_and]
set_option maxHeartbeats 1000000 in
theorem k_ScanWays (h : Hd) (a b : Dr) : FOk P 14 [eHd h, eDr a, eDr b] (.bool true) := by
  have yd := x_rDirectionErr a.az a.el
  have yd2 := x_rDirectionErr b.az b.el
  have ed : drE ⟨a.az, a.el⟩ = drE a := rfl
  have ed2 : drE ⟨b.az, b.el⟩ = drE b := rfl
  rw [ed] at yd
  rw [ed2] at yd2
  by_cases h8 : (h.res.length : Int) ≤ 8
  · have hl : h.res.length ≤ 1000 := by omega
    have hl' : h.res.length ≤ 1099511627776 := by omega
    have yc := x_CopyHead h (by simp only [hl])
    have y4 := x_rHeadErr h (by simp only [hl])
    by_cases c2 : hdE h = 0
    · by_cases za : drE a = 0
      · by_cases zb : drE b = 0
        · have hda := drE_zero za
          have hdb := drE_zero zb
          have w1 : wfE a b = 0 := by unfold wfE; simp only [firstE, za, zb, if_true]
          have w2 : wfE b a = 0 := by unfold wfE; simp only [firstE, za, zb, if_true]
          have y1 := x_WayOf a b
          have y2 := x_WayOf b a
          rw [wfV, if_pos w1] at y1
          rw [wfV, if_pos w2] at y2
          have hm1 := mvE_ok c2 za zb
          have hm2 := mvE_ok c2 zb za
          have y5 := x_MoveTicks h a b (by simp only [hl'])
          have y6 := x_MoveTicks h b a (by simp only [hl'])
          have y7 := x_IsDark h a b (by simp only [hl'])
          rw [mvV, if_pos hm1] at y5
          rw [mvV, if_pos hm2, mvT_sym h b a] at y6
          rw [dkV, if_pos hm1] at y7
          generalize mvT h a b = mt at *
          have hlen := wayL_len' a b
          have hsym := wayL_sym a b
          have b1 := turnN_half a.az b.az
          have b1' := turnN_bd a.az b.az
          have b2 := tiltN_bd hda.2 hdb.2
          have hcnt := cnt1 b hdb.1 _ a rfl hda.1
          have hwd := wayL_dr hda hdb
          rw [← wayL_wL1] at hcnt
          have hal : (litL h a b).isNone = (wayL a b).all fun d => !resv h.res d := by unfold litL; exact find_none_drop
          have hcons : wayL a b = a :: wL1 a b := rfl
          have hw0 : (wayL a b)[0]? = some a := rfl
          have hN : (wN1 a b : Int) = turnN a.az b.az := Int.toNat_of_nonneg b1'.1
          have hN2 : (wN2 a b : Int) = tiltN a.el b.el := Int.toNat_of_nonneg b2.1
          have hN1 : (turnN a.az b.az).toNat = wN1 a b := rfl
          rw [hN1] at hcnt
          have hd1 : cntW a ((wayL a b).drop 1) = some (wN1 a b) := hcnt.1
          have hlast := hcnt.2
          clear hcnt
          generalize (litL h a b).isNone = q at *
          generalize wN1 a b = N at *
          generalize wN2 a b = N2 at *
          generalize wayL b a = m at *
          generalize wL1 a b = r0 at *
          generalize wayL a b = l at *
          have hpos : 0 < l.length := by omega
          have f1 : ((l.length : Int) = 0) = False := by simp only [eq_iff_iff, iff_false]; omega
          have f2 : (300 < (l.length : Int)) = False := by simp only [eq_iff_iff, iff_false]; omega
          have f3 : ((m.length : Int) = (l.length : Int)) = True := by simp only [eq_iff_iff, iff_true]; omega
          have g0 : (l.map eDr)[0]? = some (eDr a) := by rw [List.getElem?_map, hw0]; rfl
          have wl : IntKind.wrap .i64 ((l.length : Int) - 1) = ((l.length - 1 : Nat) : Int) := by rw [wrap64 (by omega) (by omega)]; omega
          have g1 : (l.map eDr)[l.length - 1]? = some (eDr b) := by rw [List.getElem?_map, ← List.getLast?_eq_getElem?, hlast]; rfl
          refine c14.fok (by simp only [free_Hs, free_Hd, subs, sub1, free_Se]) (Cor.run (addC_good g_Mod (addC_good g_rDirectionErr (addC_good g_rHeadErr (addC_good g_IsReserved (addC_good g_IsDark (addC_good g_MoveTicks (addC_good g_WayOf (addC_good g_CopyHead (addC_good g_few (addC_good g_awake (noC_good _))))))))))) (noHx_good _) hm ?_)
          simp +contextual -implicitDefEqProofs (maxSteps := 2000000) only [bg_eq, a14, nz0, x_awake, x_few, yc, yd, yd2, y1, y2, y4, h8, za, zb, c2, free_Dr, List.length_map, f1, f2, f3, g0, g1, wl, not_true_eq_false, not_false_eq_true, ne_eq, ruB, rh_no, Int.reduceLT, Int.reduceLE, Int.reduceAdd, Int.reduceSub, Int.reduceMul, Int.reduceNeg, Int.reduceToNat, Int.reduceEq, Int.reduceNe, Int.reduceTDiv, Int.reduceTMod, implies_true, putL, appN, appX, appC, Eng.Fi, reduceCtorEq, exists_eq_left', exists_eq_left, if_true, if_false, List.replicate, Nat.reduceAdd, Nat.reduceSub, Nat.reduceMul, Nat.reduceLeDiff, Nat.reduceLT, Nat.reduceEqDiff]
          refine Cor.lp (addC_good g_Mod (addC_good g_rDirectionErr (addC_good g_rHeadErr (addC_good g_IsReserved (addC_good g_IsDark (addC_good g_MoveTicks (addC_good g_WayOf (addC_good g_CopyHead (addC_good g_few (addC_good g_awake (noC_good _))))))))))) (noHx_good _) hm (S14 h a b l q) (fun p => (p.1 ≤ l.length ∧ inW l N p.1 p.2.1) ∧ q = (p.2.2 && (l.drop p.1).all fun d => !resv h.res d)) (fun p => l.length - p.1) (a := (0, 0, true)) ⟨⟨Nat.zero_le _, .inl ⟨rfl, rfl⟩⟩, hal⟩ (Wkn.to ⟨0, [(0, 0), (1, 1), (2, 2)], [], 3, [3, 4, 5, 7, 11, 12, 13]⟩ rfl rfl (by simp [Wk.st, keepT, memN, Wk.fate, Wk.fate0, assoc, getE, Wk.hp, ABlk.sub, sub1, subs, S14, free_Se, free_Dr])) ?_
          rintro f ⟨i, t, dk⟩ ⟨⟨hi, hin⟩, hq⟩ go
          simp only at hi hin hq
          rcases Nat.lt_or_ge i l.length with hlt | hlt
          · have e1 : decide ((i : Int) < (l.length : Int)) = true := lt_t hlt
            have e2 : (l.map eDr)[i]? = some (eDr l[i]) := get_e eDr l hlt
            have e3 : IntKind.wrap .i64 ((i : Int) + 1) = ((i + 1 : Nat) : Int) := suc_w (by omega)
            have hdr := hwd l[i] (by simp)
            have hli : l[i]? = some l[i] := List.getElem?_eq_getElem hlt
            rw [List.drop_eq_getElem_cons hlt, List.all_cons] at hq
            have hdx := List.drop_eq_getElem_cons hlt
            generalize l[i] = x at *
            have zx : drE x = 0 := unl_t _ hdr
            have yx := x_rDirectionErr x.az x.el
            have ex : drE ⟨x.az, x.el⟩ = drE x := rfl
            rw [ex, zx] at yx
            have yr := x_IsReserved h x (by simp only [hl'])
            have hv : isV h x = .tup [B (resv h.res x), I 0] := if_pos (by simp [isE, firstE, c2, zx])
            rw [hv] at yr
            have hq2 : q = ((dk && !resv h.res x) && (l.drop (i + 1)).all fun d => !resv h.res d) := by rw [hq, Bool.and_assoc]
            generalize resv h.res x = rx at *
            by_cases i0 : i = 0
            · subst i0
              have ht : t = 0 := by
                rcases hin with ⟨_, h1⟩ | ⟨_, _, _, h1, _⟩
                · exact h1
                · omega
              subst ht
              have hxa : x = a := by rw [hw0] at hli; exact (Option.some.inj hli).symm
              have e1' : ((0 : Int) < (l.length : Int)) = True := by simp only [eq_iff_iff, iff_true]; omega
              simp +contextual -implicitDefEqProofs (maxSteps := 2000000) only [S14, nz0, e1', e2, e3, yx, yr, yc, List.length_map, pickV_and, not_true_eq_false, not_false_eq_true, ne_eq, ruB, rh_no, Int.reduceLT, Int.reduceLE, Int.reduceAdd, Int.reduceSub, Int.reduceMul, Int.reduceNeg, Int.reduceToNat, Int.reduceEq, Int.reduceNe, Int.reduceTDiv, Int.reduceTMod, implies_true, putL, appN, appX, appC, Eng.Fi, reduceCtorEq, exists_eq_left', exists_eq_left, if_true, if_false, List.replicate, Nat.reduceAdd, Nat.reduceSub, Nat.reduceMul, Nat.reduceLeDiff, Nat.reduceLT, Nat.reduceEqDiff]
              exact go _ (1, 0, dk && !rx) ⟨⟨hlt, .inr ⟨N, a, hw0, (by first | omega | (simp only; omega)), hd1, (by first | omega | (simp only; omega))⟩⟩, hq2⟩ (by simp only; omega) (Wkn.to ⟨0, [(0, 0), (1, 1), (2, 2)], [], 3, [3, 4, 5, 7, 11, 12, 13]⟩ rfl rfl (by simp [Wk.st, keepT, memN, Wk.fate, Wk.fate0, assoc, getE, Wk.hp, ABlk.sub, sub1, subs, S14, free_Se, free_Dr]))
            · have i0' : ((i : Int) = 0) = False := by simp only [eq_iff_iff, iff_false]; omega
              obtain ⟨k, y, hy, _, hc, htk⟩ := hin.resolve_left (fun e => i0 e.1)
              have w3 : IntKind.wrap .i64 ((i : Int) - 1) = ((i - 1 : Nat) : Int) := by rw [wrap64 (by omega) (by omega)]; omega
              have e4 : (l.map eDr)[i - 1]? = some (eDr y) := by rw [List.getElem?_map, hy]; rfl
              have hdy := hwd y (List.mem_of_getElem? hy)
              have b3 := hdr; have b4 := hdy
              unfold drR azR elR at b3 b4
              have w4 : IntKind.wrap .i64 (x.az - y.az) = x.az - y.az := wrap64 (by omega) (by omega)
              have w5 : IntKind.wrap .i64 (x.el - y.el) = x.el - y.el := wrap64 (by omega) (by omega)
              have w6 : IntKind.wrap .i64 ((t : Int) + 1) = ((t + 1 : Nat) : Int) := suc_w (by omega)
              have ym := x_Mod (x.az - y.az) 360 (by simp)
              rw [hdx, cntW] at hc
              have hix : l[i + 1 - 1]? = some x := by rw [Nat.add_sub_cancel]; exact hli
              by_cases sA : azS y x
              · rw [if_pos sA] at hc
                have sA' := sA
                unfold azS at sA'
                cases hc2 : cntW x (l.drop (i + 1)) with
                | none => rw [hc2] at hc; simp at hc
                | some k2 =>
                  rw [hc2] at hc
                  simp only [Option.map_some, Option.some.injEq] at hc
                  obtain ⟨ri, hri⟩ : ∃ ri, x.el - y.el = ri := ⟨_, rfl⟩
                  obtain ⟨st, hst⟩ : ∃ st, (x.az - y.az) % 360 = st := ⟨_, rfl⟩
                  rw [hri, hst] at sA'
                  rw [hst] at ym
                  have w5 : IntKind.wrap .i64 (x.el - y.el) = ri := by rw [w5, hri]
                  clear hri hst
                  simp +contextual -implicitDefEqProofs (maxSteps := 2000000) only [S14, nz0, e1, e2, e3, e4, i0', w3, w4, w5, w6, ym, sA', yx, yr, yc, List.length_map, pickV_and, not_true_eq_false, not_false_eq_true, ne_eq, ruB, rh_no, Int.reduceLT, Int.reduceLE, Int.reduceAdd, Int.reduceSub, Int.reduceMul, Int.reduceNeg, Int.reduceToNat, Int.reduceEq, Int.reduceNe, Int.reduceTDiv, Int.reduceTMod, implies_true, putL, appN, appX, appC, Eng.Fi, reduceCtorEq, exists_eq_left', exists_eq_left, if_true, if_false, List.replicate, Nat.reduceAdd, Nat.reduceSub, Nat.reduceMul, Nat.reduceLeDiff, Nat.reduceLT, Nat.reduceEqDiff]
                  exact go _ (i + 1, t + 1, dk && !rx) ⟨⟨hlt, .inr ⟨k2, x, hix, (by first | omega | (simp only; omega)), hc2, (by first | omega | (simp only; omega))⟩⟩, hq2⟩ (by simp only; omega) (Wkn.to ⟨0, [(0, 0), (1, 1), (2, 2)], [], 3, [3, 4, 5, 7, 11, 12, 13]⟩ rfl rfl (by simp [Wk.st, keepT, memN, Wk.fate, Wk.fate0, assoc, getE, Wk.hp, ABlk.sub, sub1, subs, S14, free_Se, free_Dr]))
              · rw [if_neg sA] at hc
                have sB : elS y x := by
                  by_cases sB : elS y x
                  · exact sB
                  · rw [if_neg sB] at hc; cases hc
                rw [if_pos sB] at hc
                unfold elS at sB
                have sB1 : (x.el - y.el = 0) = False := by simp only [eq_iff_iff, iff_false]; omega
                have sB2 : (¬ (x.el - y.el = 1) ∧ ¬ (x.el - y.el = -1)) = False := by simp only [eq_iff_iff, iff_false]; omega
                have sB3 := sB.1
                obtain ⟨ri, hri⟩ : ∃ ri, x.el - y.el = ri := ⟨_, rfl⟩
                obtain ⟨st, hst⟩ : ∃ st, (x.az - y.az) % 360 = st := ⟨_, rfl⟩
                rw [hri] at sB1 sB2
                rw [hst] at ym sB3
                have w5 : IntKind.wrap .i64 (x.el - y.el) = ri := by rw [w5, hri]
                clear hri hst
                simp +contextual -implicitDefEqProofs (maxSteps := 2000000) only [S14, nz0, e1, e2, e3, e4, i0', w3, w4, w5, w6, ym, sB1, sB2, sB3, yx, yr, yc, List.length_map, pickV_and, not_true_eq_false, not_false_eq_true, ne_eq, ruB, rh_no, Int.reduceLT, Int.reduceLE, Int.reduceAdd, Int.reduceSub, Int.reduceMul, Int.reduceNeg, Int.reduceToNat, Int.reduceEq, Int.reduceNe, Int.reduceTDiv, Int.reduceTMod, implies_true, putL, appN, appX, appC, Eng.Fi, reduceCtorEq, exists_eq_left', exists_eq_left, if_true, if_false, List.replicate, Nat.reduceAdd, Nat.reduceSub, Nat.reduceMul, Nat.reduceLeDiff, Nat.reduceLT, Nat.reduceEqDiff]
                exact go _ (i + 1, t, dk && !rx) ⟨⟨hlt, .inr ⟨k, x, hix, (by first | omega | (simp only; omega)), hc, (by first | omega | (simp only; omega))⟩⟩, hq2⟩ (by simp only; omega) (Wkn.to ⟨0, [(0, 0), (1, 1), (2, 2)], [], 3, [3, 4, 5, 7, 11, 12, 13]⟩ rfl rfl (by simp [Wk.st, keepT, memN, Wk.fate, Wk.fate0, assoc, getE, Wk.hp, ABlk.sub, sub1, subs, S14, free_Se, free_Dr]))
          · have e1 : decide ((i : Int) < (l.length : Int)) = false := lt_f hlt
            rw [List.drop_eq_nil_of_le hlt, List.all_nil, Bool.and_true] at hq
            subst hq
            have ht : t = N := by
              rcases hin with ⟨h1, _⟩ | ⟨k, y, _, _, hc, h2⟩
              · omega
              · rw [List.drop_eq_nil_of_le hlt, cntW] at hc
                cases hc; omega
            have w7 : IntKind.wrap .i64 (2 * (t : Int)) = 2 * t := wrap64 (by omega) (by omega)
            have g7 : (2 * (t : Int) ≤ 360) = True := by simp only [eq_iff_iff, iff_true]; omega
            simp +contextual -implicitDefEqProofs (maxSteps := 2000000) only [S14, nz0, e1, yc, y5, y6, y7, w7, g7, List.length_map, not_true_eq_false, not_false_eq_true, ne_eq, ruB, rh_no, Int.reduceLT, Int.reduceLE, Int.reduceAdd, Int.reduceSub, Int.reduceMul, Int.reduceNeg, Int.reduceToNat, Int.reduceEq, Int.reduceNe, Int.reduceTDiv, Int.reduceTMod, implies_true, putL, appN, appX, appC, Eng.Fi, reduceCtorEq, exists_eq_left', exists_eq_left, if_true, if_false, List.replicate, Nat.reduceAdd, Nat.reduceSub, Nat.reduceMul, Nat.reduceLeDiff, Nat.reduceLT, Nat.reduceEqDiff]
        · refine c14.fok (by simp only [free_Hs, free_Hd, subs, sub1, free_Se]) (Cor.run (addC_good g_Mod (addC_good g_rDirectionErr (addC_good g_rHeadErr (addC_good g_IsReserved (addC_good g_IsDark (addC_good g_MoveTicks (addC_good g_WayOf (addC_good g_CopyHead (addC_good g_few (addC_good g_awake (noC_good _))))))))))) (noHx_good _) hm ?_)
          simp +contextual -implicitDefEqProofs (maxSteps := 2000000) only [bg_eq, a14, nz0, x_awake, x_few, yd, yd2, y4, h8, za, zb, c2, not_true_eq_false, not_false_eq_true, ne_eq, ruB, rh_no, Int.reduceLT, Int.reduceLE, Int.reduceAdd, Int.reduceSub, Int.reduceMul, Int.reduceNeg, Int.reduceToNat, Int.reduceEq, Int.reduceNe, Int.reduceTDiv, Int.reduceTMod, implies_true, putL, appN, appX, appC, Eng.Fi, reduceCtorEq, exists_eq_left', exists_eq_left, if_true, if_false, List.replicate, Nat.reduceAdd, Nat.reduceSub, Nat.reduceMul, Nat.reduceLeDiff, Nat.reduceLT, Nat.reduceEqDiff]
      · refine c14.fok (by simp only [free_Hs, free_Hd, subs, sub1, free_Se]) (Cor.run (addC_good g_Mod (addC_good g_rDirectionErr (addC_good g_rHeadErr (addC_good g_IsReserved (addC_good g_IsDark (addC_good g_MoveTicks (addC_good g_WayOf (addC_good g_CopyHead (addC_good g_few (addC_good g_awake (noC_good _))))))))))) (noHx_good _) hm ?_)
        simp +contextual -implicitDefEqProofs (maxSteps := 2000000) only [bg_eq, a14, nz0, x_awake, x_few, yd, yd2, y4, h8, za, c2, not_true_eq_false, not_false_eq_true, ne_eq, ruB, rh_no, Int.reduceLT, Int.reduceLE, Int.reduceAdd, Int.reduceSub, Int.reduceMul, Int.reduceNeg, Int.reduceToNat, Int.reduceEq, Int.reduceNe, Int.reduceTDiv, Int.reduceTMod, implies_true, putL, appN, appX, appC, Eng.Fi, reduceCtorEq, exists_eq_left', exists_eq_left, if_true, if_false, List.replicate, Nat.reduceAdd, Nat.reduceSub, Nat.reduceMul, Nat.reduceLeDiff, Nat.reduceLT, Nat.reduceEqDiff]
    · refine c14.fok (by simp only [free_Hs, free_Hd, subs, sub1, free_Se]) (Cor.run (addC_good g_Mod (addC_good g_rDirectionErr (addC_good g_rHeadErr (addC_good g_IsReserved (addC_good g_IsDark (addC_good g_MoveTicks (addC_good g_WayOf (addC_good g_CopyHead (addC_good g_few (addC_good g_awake (noC_good _))))))))))) (noHx_good _) hm ?_)
      simp +contextual -implicitDefEqProofs (maxSteps := 2000000) only [bg_eq, a14, nz0, x_awake, x_few, yd, yd2, y4, h8, c2, not_true_eq_false, not_false_eq_true, ne_eq, ruB, rh_no, Int.reduceLT, Int.reduceLE, Int.reduceAdd, Int.reduceSub, Int.reduceMul, Int.reduceNeg, Int.reduceToNat, Int.reduceEq, Int.reduceNe, Int.reduceTDiv, Int.reduceTMod, implies_true, putL, appN, appX, appC, Eng.Fi, reduceCtorEq, exists_eq_left', exists_eq_left, if_true, if_false, List.replicate, Nat.reduceAdd, Nat.reduceSub, Nat.reduceMul, Nat.reduceLeDiff, Nat.reduceLT, Nat.reduceEqDiff]
  · refine c14.fok (by simp only [free_Hs, free_Hd, subs, sub1, free_Se]) (Cor.run (addC_good g_Mod (addC_good g_rDirectionErr (addC_good g_rHeadErr (addC_good g_IsReserved (addC_good g_IsDark (addC_good g_MoveTicks (addC_good g_WayOf (addC_good g_CopyHead (addC_good g_few (addC_good g_awake (noC_good _))))))))))) (noHx_good _) hm ?_)
    simp +contextual -implicitDefEqProofs (maxSteps := 2000000) only [bg_eq, a14, nz0, x_awake, x_few, h8, not_true_eq_false, not_false_eq_true, ne_eq, ruB, rh_no, Int.reduceLT, Int.reduceLE, Int.reduceAdd, Int.reduceSub, Int.reduceMul, Int.reduceNeg, Int.reduceToNat, Int.reduceEq, Int.reduceNe, Int.reduceTDiv, Int.reduceTMod, implies_true, putL, appN, appX, appC, Eng.Fi, reduceCtorEq, exists_eq_left', exists_eq_left, if_true, if_false, List.replicate, Nat.reduceAdd, Nat.reduceSub, Nat.reduceMul, Nat.reduceLeDiff, Nat.reduceLT, Nat.reduceEqDiff]
theorem law14 (n0 : Nat) (u0 : AV) (a0 : ArG P n0 42 u0) (n1 : Nat) (u1 : AV) (a1 : ArG P n1 37 u1) (n2 : Nat) (u2 : AV) (a2 : ArG P n2 37 u2) : FOk P 14 [u0, u1, u2] (.bool true) := by
  obtain ⟨h, rfl, _⟩ := arHead a0
  obtain ⟨a, rfl⟩ := arDir a1
  obtain ⟨b, rfl⟩ := arDir a2
  exact k_ScanWays h a b
end Sc
