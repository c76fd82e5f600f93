import Derived.Test.YtjkhnmhbbjgenaaEngS9
import Derived.Test.YtjkhnmhbbjgenaaS47
import Derived.Test.YtjkhnmhbbjgenaaS42
open Go Go.Proofs Eng
set_option maxRecDepth 100000
set_option linter.unusedSimpArgs false
set_option linter.unusedVariables false
def a11 : AC := .seq (.ops false [] [⟨some 3, .box 42 7 1 true, [.t 0], none⟩, ⟨some 6, .p (.mov), [.c (.bool false)], none⟩]) (.seq (.seq (.ops false [] [⟨some 19, .call 15, [], none⟩, ⟨some 20, .p (.notB), [.t 19], none⟩]) (.cond (.t 20) (.seq (.ops false [] [⟨some 6, .p (.mov), [.c (.bool false)], none⟩]) (.ret)) (.skip))) (.seq (.seq (.ops false [] [⟨some 21, .load 7 true, [.t 3], none⟩, ⟨some 22, .call 23, [.t 21], none⟩, ⟨some 23, .p (.notB), [.t 22], none⟩, ⟨some 24, .p (.mov), [.t 23], none⟩, ⟨some 25, .p (.mov), [.t 1], some (24, false)⟩, ⟨some 26, .p (.lenS), [.t 25], some (24, false)⟩, ⟨some 27, .p (.binI .gtr), [.t 26, .c (.int .i64 8)], some (24, false)⟩, ⟨some 28, .p (.pick), [.t 24, .c (.bool true), .t 27], none⟩, ⟨some 29, .p (.mov), [.t 28], none⟩, ⟨some 30, .p (.mov), [.t 2], some (29, false)⟩, ⟨some 31, .p (.lenS), [.t 30], some (29, false)⟩, ⟨some 32, .p (.binI .gtr), [.t 31, .c (.int .i64 8)], some (29, false)⟩, ⟨some 33, .p (.pick), [.t 29, .c (.bool true), .t 32], none⟩]) (.cond (.t 33) (.seq (.ops false [] [⟨some 6, .p (.mov), [.c (.bool true)], none⟩]) (.ret)) (.skip))) (.seq (.ops false [] [⟨some 35, .load 7 true, [.t 3], none⟩, ⟨some 36, .call 25, [.t 35], none⟩, ⟨some 37, .p (.mov), [.t 1], none⟩, ⟨some 38, .call 58, [.t 37], none⟩, ⟨some 39, .call 57, [.t 36, .t 38], none⟩, ⟨some 34, .p (.mov), [.t 39], none⟩, ⟨some 40, .p (.ext 0), [.t 34], none⟩, ⟨some 41, .p (.ext 1), [.t 34], none⟩, ⟨some 42, .p (.ext 2), [.t 34], none⟩, ⟨some 7, .p (.mov), [.t 40], none⟩, ⟨some 8, .p (.mov), [.t 41], none⟩, ⟨some 9, .p (.mov), [.t 42], none⟩]) (.seq (.ops false [] [⟨some 44, .load 7 true, [.t 3], none⟩, ⟨some 45, .call 25, [.t 44], none⟩, ⟨some 46, .p (.mov), [.t 1], none⟩, ⟨some 47, .call 58, [.t 46], none⟩, ⟨some 48, .p (.mov), [.t 2], none⟩, ⟨some 49, .call 60, [.t 48], none⟩, ⟨some 50, .call 59, [.t 45, .t 47, .t 49], none⟩, ⟨some 43, .p (.mov), [.t 50], none⟩, ⟨some 51, .p (.ext 0), [.t 43], none⟩, ⟨some 52, .p (.ext 1), [.t 43], none⟩, ⟨some 10, .p (.mov), [.t 51], none⟩, ⟨some 11, .p (.mov), [.t 52], none⟩]) (.seq (.ops false [] [⟨some 54, .load 7 true, [.t 3], none⟩, ⟨some 55, .call 25, [.t 54], none⟩, ⟨some 56, .p (.mov), [.t 1], none⟩, ⟨some 57, .call 58, [.t 56], none⟩, ⟨some 58, .call 61, [.t 55, .t 57], none⟩, ⟨some 53, .p (.mov), [.t 58], none⟩, ⟨some 59, .p (.ext 0), [.t 53], none⟩, ⟨some 60, .p (.ext 1), [.t 53], none⟩, ⟨some 12, .p (.mov), [.t 59], none⟩, ⟨some 13, .p (.mov), [.t 60], none⟩]) (.seq (.ops false [] [⟨some 61, .load 7 true, [.t 3], none⟩, ⟨some 62, .call 28, [.t 61], none⟩, ⟨some 14, .p (.mov), [.t 62], none⟩]) (.seq (.seq (.ops false [] [⟨some 63, .p (.mov), [.t 14], none⟩, ⟨some 64, .p (.binI .eql), [.t 63, .c (.int .i64 0)], none⟩]) (.cond (.t 64) (.ops false [] [⟨some 65, .p (.mov), [.t 1], none⟩, ⟨some 66, .call 62, [.t 65], none⟩, ⟨some 14, .p (.mov), [.t 66], none⟩]) (.skip))) (.seq (.seq (.ops false [] [⟨some 67, .p (.mov), [.t 14], none⟩, ⟨some 68, .p (.binI .neq), [.t 67, .c (.int .i64 0)], none⟩]) (.cond (.t 68) (.seq (.ops false [] [⟨some 69, .p (.mov), [.t 9], none⟩, ⟨some 70, .p (.mov), [.t 14], none⟩, ⟨some 71, .p (.binI .eql), [.t 69, .t 70], none⟩, ⟨some 72, .p (.mov), [.t 71], none⟩, ⟨some 73, .p (.mov), [.t 11], some (72, true)⟩, ⟨some 74, .p (.mov), [.t 14], some (72, true)⟩, ⟨some 75, .p (.binI .eql), [.t 73, .t 74], some (72, true)⟩, ⟨some 76, .p (.pick), [.t 72, .t 75, .c (.bool false)], none⟩, ⟨some 77, .p (.mov), [.t 76], none⟩, ⟨some 78, .p (.mov), [.t 13], some (77, true)⟩, ⟨some 79, .p (.mov), [.t 14], some (77, true)⟩, ⟨some 80, .p (.binI .eql), [.t 78, .t 79], some (77, true)⟩, ⟨some 81, .p (.pick), [.t 77, .t 80, .c (.bool false)], none⟩, ⟨some 82, .p (.mov), [.t 81], none⟩, ⟨some 83, .p (.mov), [.t 7], some (82, true)⟩, ⟨some 84, .p (.lenS), [.t 83], some (82, true)⟩, ⟨some 85, .p (.binI .eql), [.t 84, .c (.int .i64 0)], some (82, true)⟩, ⟨some 86, .p (.pick), [.t 82, .t 85, .c (.bool false)], none⟩, ⟨some 87, .p (.mov), [.t 86], none⟩, ⟨some 88, .p (.mov), [.t 8], some (87, true)⟩, ⟨some 89, .p (.binI .eql), [.t 88, .c (.int .i64 0)], some (87, true)⟩, ⟨some 90, .p (.pick), [.t 87, .t 89, .c (.bool false)], none⟩, ⟨some 91, .p (.mov), [.t 90], none⟩, ⟨some 92, .p (.mov), [.t 10], some (91, true)⟩, ⟨some 93, .p (.binI .eql), [.t 92, .c (.int .i64 0)], some (91, true)⟩, ⟨some 94, .p (.pick), [.t 91, .t 93, .c (.bool false)], none⟩, ⟨some 95, .p (.mov), [.t 94], none⟩, ⟨some 96, .p (.mov), [.t 12], some (95, true)⟩, ⟨some 97, .p (.binI .eql), [.t 96, .c (.int .i64 0)], some (95, true)⟩, ⟨some 98, .p (.pick), [.t 95, .t 97, .c (.bool false)], none⟩, ⟨some 6, .p (.mov), [.t 98], none⟩]) (.ret)) (.skip))) (.seq (.ops false [] [⟨some 100, .load 7 true, [.t 3], none⟩, ⟨some 101, .p (.mov), [.t 1], none⟩, ⟨some 102, .call 63, [.t 100, .t 101], none⟩, ⟨some 99, .p (.mov), [.t 102], none⟩, ⟨some 103, .p (.ext 0), [.t 99], none⟩, ⟨some 104, .p (.ext 1), [.t 99], none⟩, ⟨some 105, .p (.ext 2), [.t 99], none⟩, ⟨some 15, .p (.mov), [.t 103], none⟩, ⟨some 16, .p (.mov), [.t 104], none⟩, ⟨some 17, .p (.mov), [.t 105], none⟩]) (.seq (.seq (.ops false [] [⟨some 106, .p (.mov), [.t 17], none⟩, ⟨some 107, .p (.mov), [.t 106], none⟩, ⟨some 108, .p (.mov), [.t 9], some (107, true)⟩, ⟨some 109, .p (.binI .neq), [.t 108, .c (.int .i64 0)], some (107, true)⟩, ⟨some 110, .p (.mov), [.t 109], some (107, true)⟩, ⟨some 111, .p (.mov), [.t 8], some (110, false)⟩, ⟨some 112, .p (.mov), [.t 16], some (110, false)⟩, ⟨some 113, .p (.binI .neq), [.t 111, .t 112], some (110, false)⟩, ⟨some 114, .p (.pick), [.t 110, .c (.bool true), .t 113], some (107, true)⟩, ⟨some 115, .p (.mov), [.t 114], some (107, true)⟩, ⟨some 116, .p (.mov), [.t 7], some (115, false)⟩, ⟨some 117, .p (.mov), [.t 15], some (115, false)⟩, ⟨some 118, .call 52, [.t 116, .t 117], some (115, false)⟩, ⟨some 119, .p (.notB), [.t 118], some (115, false)⟩, ⟨some 120, .p (.pick), [.t 115, .c (.bool true), .t 119], some (107, true)⟩, ⟨some 121, .p (.pick), [.t 107, .t 120, .c (.bool false)], none⟩, ⟨some 122, .p (.mov), [.t 121], none⟩, ⟨some 123, .p (.mov), [.t 17], some (122, false)⟩, ⟨some 124, .p (.notB), [.t 123], some (122, false)⟩, ⟨some 125, .p (.mov), [.t 124], some (122, false)⟩, ⟨some 126, .p (.mov), [.t 9], some (125, true)⟩, ⟨some 127, .p (.binI .neq), [.t 126, .c (.int .i64 12)], some (125, true)⟩, ⟨some 128, .p (.mov), [.t 127], some (125, true)⟩, ⟨some 129, .p (.mov), [.t 8], some (128, false)⟩, ⟨some 130, .p (.binI .neq), [.t 129, .c (.int .i64 0)], some (128, false)⟩, ⟨some 131, .p (.pick), [.t 128, .c (.bool true), .t 130], some (125, true)⟩, ⟨some 132, .p (.mov), [.t 131], some (125, true)⟩, ⟨some 133, .p (.mov), [.t 7], some (132, false)⟩, ⟨some 134, .p (.lenS), [.t 133], some (132, false)⟩, ⟨some 135, .p (.binI .neq), [.t 134, .c (.int .i64 0)], some (132, false)⟩, ⟨some 136, .p (.pick), [.t 132, .c (.bool true), .t 135], some (125, true)⟩, ⟨some 137, .p (.pick), [.t 125, .t 136, .c (.bool false)], some (122, false)⟩, ⟨some 138, .p (.pick), [.t 122, .c (.bool true), .t 137], none⟩]) (.cond (.t 138) (.seq (.ops false [] [⟨some 6, .p (.mov), [.c (.bool false)], none⟩]) (.ret)) (.skip))) (.seq (.ops false [] [⟨some 140, .load 7 true, [.t 3], none⟩, ⟨some 141, .p (.mov), [.t 1], none⟩, ⟨some 142, .p (.mov), [.t 2], none⟩, ⟨some 143, .call 64, [.t 140, .t 141, .t 142], none⟩, ⟨some 139, .p (.mov), [.t 143], none⟩, ⟨some 144, .p (.ext 0), [.t 139], none⟩, ⟨some 145, .p (.ext 1), [.t 139], none⟩, ⟨some 18, .p (.mov), [.t 144], none⟩, ⟨some 14, .p (.mov), [.t 145], none⟩]) (.seq (.ops false [] [⟨some 146, .p (.mov), [.t 11], none⟩, ⟨some 147, .p (.mov), [.t 14], none⟩, ⟨some 148, .p (.binI .eql), [.t 146, .t 147], none⟩, ⟨some 149, .p (.mov), [.t 148], none⟩, ⟨some 150, .p (.mov), [.t 10], some (149, true)⟩, ⟨some 151, .p (.mov), [.t 18], some (149, true)⟩, ⟨some 152, .p (.binI .eql), [.t 150, .t 151], some (149, true)⟩, ⟨some 153, .p (.pick), [.t 149, .t 152, .c (.bool false)], none⟩, ⟨some 154, .p (.mov), [.t 153], none⟩, ⟨some 155, .p (.mov), [.t 13], some (154, true)⟩, ⟨some 156, .p (.binI .eql), [.t 155, .c (.int .i64 0)], some (154, true)⟩, ⟨some 157, .p (.pick), [.t 154, .t 156, .c (.bool false)], none⟩, ⟨some 158, .p (.mov), [.t 157], none⟩, ⟨some 159, .p (.mov), [.t 12], some (158, true)⟩, ⟨some 160, .load 7 true, [.t 3], some (158, true)⟩, ⟨some 161, .p (.mov), [.t 1], some (158, true)⟩, ⟨some 162, .call 65, [.t 160, .t 161], some (158, true)⟩, ⟨some 163, .p (.binI .eql), [.t 159, .t 162], some (158, true)⟩, ⟨some 164, .p (.pick), [.t 158, .t 163, .c (.bool false)], none⟩, ⟨some 6, .p (.mov), [.t 164], none⟩]) (.ret)))))))))))))
theorem c11 : FnC Try.prog 11 165 a11 [.tmp 6] := ⟨Try.call11, _, _, Try.func11, rfl, by kernel_rfl, by kernel_rfl, rfl⟩
namespace Sc
open Classical in
/-- a contract for one call only -/
noncomputable def cf1 (us : List AV) (v : AV) : List AV → Option AV := fun xs => if xs = us then some v else none
theorem cf1_good {f : Nat} {us : List AV} {v : AV} (h : FOk P f us v) : Fn P f (cf1 us v) := fun args u hh => by
  unfold cf1 at hh
  split at hh
  · rename_i e; cases hh; rw [e]; exact h
  · cases hh
theorem x_cf1 (us : List AV) (v : AV) : cf1 us v us = some v := by unfold cf1; exact if_pos rfl
theorem coV_ne {h : Hd} {l : List Dr} {o : List Int} {e : Int} (he : opE h l = e) (hn : e ≠ 0) : coV h l o = .tup [I 0, I e] := by
  have : coE h l o = e := by
    unfold coE
    rw [fE2', if_neg (he ▸ hn), coF_ne _ _ _ (he ▸ hn), he]
  rw [coV, this, if_neg hn]
theorem coV_two (h : Hd) (l : List Dr) (o : List Int) : ∃ m c : Int, coV h l o = .tup [I m, I c] := by
  unfold coV
  split
  · split
    · exact ⟨_, _, rfl⟩
    · exact ⟨_, _, rfl⟩
  · exact ⟨_, _, rfl⟩
set_option maxHeartbeats 4000000 in
theorem k_ScanOrders (h : Hd) (l : List Dr) (o : List Int) : FOk P 11 [eHd h, .vs (l.map eDr), .vs (o.map eI)] (.bool true) := by
  by_cases h8 : (h.res.length : Int) ≤ 8
  · by_cases h6 : (l.length : Int) ≤ 8
    · have h6' : (8 < (l.length : Int)) = False := by simp only [eq_iff_iff, iff_false]; omega
      by_cases hlo : (o.length : Int) ≤ 8
      · have hlo' : (8 < (o.length : Int)) = False := by simp only [eq_iff_iff, iff_false]; omega
        have hl : h.res.length ≤ 1000 := by omega
        have hl' : h.res.length ≤ 1099511627776 := by omega
        have y4 := x_rHeadErr h (by simp only [hl])
        have y5 := x_rDirectionsErr l (by simp only [eq_iff_iff, iff_true]; omega)
        have yh := x_CopyHead h (by simp only [hl])
        have yd := x_CopyDirections l (by simp only [eq_iff_iff, iff_true]; omega)
        have yi := x_CopyInts o (by simp only [eq_iff_iff, iff_true]; omega)
        have y1 := x_OrderOfF h l (by simp only [eq_iff_iff, iff_true]; exact ⟨hl', by omega⟩)
        have y2 := x_CheckOrder h l o (by simp only [eq_iff_iff, iff_true]; exact ⟨⟨hl', by omega⟩, by omega⟩)
        have y3 := x_BoundOf h l (by simp only [eq_iff_iff, iff_true]; exact ⟨hl', by omega⟩)
        by_cases c2 : hdE h = 0
        · by_cases c1 : dsE l = 0
          · have h0 : opE h l = 0 := by rw [opE_val, if_pos c2]; exact c1
            obtain ⟨hod, hpos⟩ := opE_z h0
            have hq : kQ h l := hod
            have h66 : l.length ≤ 6 := hod.1.2
            rw [ooV, if_pos h0] at y1
            rw [bdV, if_pos h0] at y3
            have y6 := x_rBound h l (by simp only [hq])
            have y7 := x_rOrderErr h l o (by simp only [eq_iff_iff, iff_true]; exact ⟨h0, by omega⟩)
            obtain ⟨m, c, e2⟩ := coV_two h l o
            rw [e2] at y2 y7
            have k8 := k_rOrder h l hq
            rw [fin_oo h66] at k8
            have hbest := ooB_best ⟨h, l⟩
            cases hob : ooB ⟨h, l⟩ with
            | none =>
              rw [hob] at y1 k8
              simp only at y1
              simp only [finV] at k8
              have g8 : Fn P 63 (cf1 [eHd h, .vs (l.map eDr)] (.tup [.vs [], I 0, .bool false])) := cf1_good k8
              have y8 := x_cf1 [eHd h, .vs (l.map eDr)] (.tup [.vs [], I 0, .bool false])
              refine c11.fok (by simp only [free_Hs, subs, sub1, free_Se, free_Dr, free_I]) (Cor.run (addC_good g8 (addC_good g_Ints (addC_good g_rBound (addC_good g_rOrderErr (addC_good g_rDirectionsErr (addC_good g_rHeadErr (addC_good g_BoundOf (addC_good g_CheckOrder (addC_good g_OrderOfF (addC_good g_CopyInts (addC_good g_CopyDirections (addC_good g_CopyHead (addC_good g_few (addC_good g_awake (noC_good _))))))))))))))) (noHx_good _) hm ?_)
              simp +contextual -implicitDefEqProofs (maxSteps := 2000000) only [bg_eq, a11, nz0, x_awake, x_few, yh, yd, yi, y1, y2, y3, y4, y5, y6, y7, y8, h8, h6', hlo', c1, c2, free_Dr, free_I, List.length_map, not_true_eq_false, not_false_eq_true, ne_eq, ruB, rh_no, Int.reduceLT, Int.reduceLE, Int.reduceAdd, Int.reduceSub, Int.reduceMul, Int.reduceNeg, Int.reduceToNat, Int.reduceEq, Int.reduceNe, Int.reduceTDiv, Int.reduceTMod, implies_true, putL, appN, appX, appC, Eng.Fi, reduceCtorEq, exists_eq_left', exists_eq_left, if_true, if_false, List.replicate, Nat.reduceAdd, Nat.reduceSub, Nat.reduceMul, Nat.reduceLeDiff, Nat.reduceLT, Nat.reduceEqDiff]
            | some x =>
              obtain ⟨p, t⟩ := x
              rw [hob] at y1 k8 hbest
              simp only at y1
              simp only [finV] at k8
              obtain ⟨b1, b2, b3⟩ := hbest
              have b1' : p ∈ permG l.length l.length [] := b1
              have hpm := perm_mem (N := l.length) l.length [] (by simp) (by simp) p b1'
              have g8 : Fn P 63 (cf1 [eHd h, .vs (l.map eDr)] (.tup [.vs (p.map eI), I t, .bool true])) := cf1_good k8
              have y8 := x_cf1 [eHd h, .vs (l.map eDr)] (.tup [.vs (p.map eI), I t, .bool true])
              have y9 := x_Ints p p (by simp only [eq_iff_iff, iff_true]; omega)
              rw [decide_eq_true rfl] at y9
              refine c11.fok (by simp only [free_Hs, subs, sub1, free_Se, free_Dr, free_I]) (Cor.run (addC_good g8 (addC_good g_Ints (addC_good g_rBound (addC_good g_rOrderErr (addC_good g_rDirectionsErr (addC_good g_rHeadErr (addC_good g_BoundOf (addC_good g_CheckOrder (addC_good g_OrderOfF (addC_good g_CopyInts (addC_good g_CopyDirections (addC_good g_CopyHead (addC_good g_few (addC_good g_awake (noC_good _))))))))))))))) (noHx_good _) hm ?_)
              simp +contextual -implicitDefEqProofs (maxSteps := 2000000) only [bg_eq, a11, nz0, x_awake, x_few, yh, yd, yi, y1, y2, y3, y4, y5, y6, y7, y8, y9, h8, h6', hlo', c1, c2, free_Dr, free_I, List.length_map, not_true_eq_false, not_false_eq_true, ne_eq, ruB, rh_no, Int.reduceLT, Int.reduceLE, Int.reduceAdd, Int.reduceSub, Int.reduceMul, Int.reduceNeg, Int.reduceToNat, Int.reduceEq, Int.reduceNe, Int.reduceTDiv, Int.reduceTMod, implies_true, putL, appN, appX, appC, Eng.Fi, reduceCtorEq, exists_eq_left', exists_eq_left, if_true, if_false, List.replicate, Nat.reduceAdd, Nat.reduceSub, Nat.reduceMul, Nat.reduceLeDiff, Nat.reduceLT, Nat.reduceEqDiff]
          · have h0 : opE h l = dsE l := by rw [opE_val, if_pos c2]
            have h0n : ¬ opE h l = 0 := by rw [h0]; exact c1
            rw [coV_ne h0 c1] at y2
            rw [ooV, if_neg h0n, h0] at y1
            rw [bdV, if_neg h0n, h0] at y3
            refine c11.fok (by simp only [free_Hs, subs, sub1, free_Se, free_Dr, free_I]) (Cor.run (addC_good g_Ints (addC_good g_rBound (addC_good g_rOrderErr (addC_good g_rDirectionsErr (addC_good g_rHeadErr (addC_good g_BoundOf (addC_good g_CheckOrder (addC_good g_OrderOfF (addC_good g_CopyInts (addC_good g_CopyDirections (addC_good g_CopyHead (addC_good g_few (addC_good g_awake (noC_good _)))))))))))))) (noHx_good _) hm ?_)
            simp +contextual -implicitDefEqProofs (maxSteps := 2000000) only [bg_eq, a11, nz0, x_awake, x_few, yh, yd, yi, y1, y2, y3, y4, y5, h8, h6', hlo', c1, c2, free_Dr, free_I, List.length_map, List.length_nil, not_true_eq_false, not_false_eq_true, ne_eq, ruB, rh_no, Int.reduceLT, Int.reduceLE, Int.reduceAdd, Int.reduceSub, Int.reduceMul, Int.reduceNeg, Int.reduceToNat, Int.reduceEq, Int.reduceNe, Int.reduceTDiv, Int.reduceTMod, implies_true, putL, appN, appX, appC, Eng.Fi, reduceCtorEq, exists_eq_left', exists_eq_left, if_true, if_false, List.replicate, Nat.reduceAdd, Nat.reduceSub, Nat.reduceMul, Nat.reduceLeDiff, Nat.reduceLT, Nat.reduceEqDiff]
        · have h0 : opE h l = hdE h := by rw [opE_val, if_neg c2]
          have h0n : ¬ opE h l = 0 := by rw [h0]; exact c2
          rw [coV_ne h0 c2] at y2
          rw [ooV, if_neg h0n, h0] at y1
          rw [bdV, if_neg h0n, h0] at y3
          refine c11.fok (by simp only [free_Hs, subs, sub1, free_Se, free_Dr, free_I]) (Cor.run (addC_good g_Ints (addC_good g_rBound (addC_good g_rOrderErr (addC_good g_rDirectionsErr (addC_good g_rHeadErr (addC_good g_BoundOf (addC_good g_CheckOrder (addC_good g_OrderOfF (addC_good g_CopyInts (addC_good g_CopyDirections (addC_good g_CopyHead (addC_good g_few (addC_good g_awake (noC_good _)))))))))))))) (noHx_good _) hm ?_)
          simp +contextual -implicitDefEqProofs (maxSteps := 2000000) only [bg_eq, a11, nz0, x_awake, x_few, yh, yd, yi, y1, y2, y3, y4, h8, h6', hlo', c2, free_Dr, free_I, List.length_map, List.length_nil, not_true_eq_false, not_false_eq_true, ne_eq, ruB, rh_no, Int.reduceLT, Int.reduceLE, Int.reduceAdd, Int.reduceSub, Int.reduceMul, Int.reduceNeg, Int.reduceToNat, Int.reduceEq, Int.reduceNe, Int.reduceTDiv, Int.reduceTMod, implies_true, putL, appN, appX, appC, Eng.Fi, reduceCtorEq, exists_eq_left', exists_eq_left, if_true, if_false, List.replicate, Nat.reduceAdd, Nat.reduceSub, Nat.reduceMul, Nat.reduceLeDiff, Nat.reduceLT, Nat.reduceEqDiff]
      · have hlo' : (8 < (o.length : Int)) = True := by simp only [eq_iff_iff, iff_true]; omega
        refine c11.fok (by simp only [free_Hs, subs, sub1, free_Se, free_Dr, free_I]) (Cor.run (addC_good g_few (addC_good g_awake (noC_good _))) (noHx_good _) hm ?_)
        simp +contextual -implicitDefEqProofs (maxSteps := 2000000) only [bg_eq, a11, nz0, x_awake, x_few, h8, h6', hlo', List.length_map, not_true_eq_false, not_false_eq_true, ne_eq, ruB, rh_no, Int.reduceLT, Int.reduceLE, Int.reduceAdd, Int.reduceSub, Int.reduceMul, Int.reduceNeg, Int.reduceToNat, Int.reduceEq, Int.reduceNe, Int.reduceTDiv, Int.reduceTMod, implies_true, putL, appN, appX, appC, Eng.Fi, reduceCtorEq, exists_eq_left', exists_eq_left, if_true, if_false, List.replicate, Nat.reduceAdd, Nat.reduceSub, Nat.reduceMul, Nat.reduceLeDiff, Nat.reduceLT, Nat.reduceEqDiff]
    · have h6' : (8 < (l.length : Int)) = True := by simp only [eq_iff_iff, iff_true]; omega
      refine c11.fok (by simp only [free_Hs, subs, sub1, free_Se, free_Dr, free_I]) (Cor.run (addC_good g_few (addC_good g_awake (noC_good _))) (noHx_good _) hm ?_)
      simp +contextual -implicitDefEqProofs (maxSteps := 2000000) only [bg_eq, a11, nz0, x_awake, x_few, h8, h6', List.length_map, not_true_eq_false, not_false_eq_true, ne_eq, ruB, rh_no, Int.reduceLT, Int.reduceLE, Int.reduceAdd, Int.reduceSub, Int.reduceMul, Int.reduceNeg, Int.reduceToNat, Int.reduceEq, Int.reduceNe, Int.reduceTDiv, Int.reduceTMod, implies_true, putL, appN, appX, appC, Eng.Fi, reduceCtorEq, exists_eq_left', exists_eq_left, if_true, if_false, List.replicate, Nat.reduceAdd, Nat.reduceSub, Nat.reduceMul, Nat.reduceLeDiff, Nat.reduceLT, Nat.reduceEqDiff]
  · refine c11.fok (by simp only [free_Hs, subs, sub1, free_Se, free_Dr, free_I]) (Cor.run (addC_good g_few (addC_good g_awake (noC_good _))) (noHx_good _) hm ?_)
    simp +contextual -implicitDefEqProofs (maxSteps := 2000000) only [bg_eq, a11, nz0, x_awake, x_few, h8, not_true_eq_false, not_false_eq_true, ne_eq, ruB, rh_no, Int.reduceLT, Int.reduceLE, Int.reduceAdd, Int.reduceSub, Int.reduceMul, Int.reduceNeg, Int.reduceToNat, Int.reduceEq, Int.reduceNe, Int.reduceTDiv, Int.reduceTMod, implies_true, putL, appN, appX, appC, Eng.Fi, reduceCtorEq, exists_eq_left', exists_eq_left, if_true, if_false, List.replicate, Nat.reduceAdd, Nat.reduceSub, Nat.reduceMul, Nat.reduceLeDiff, Nat.reduceLT, Nat.reduceEqDiff]
theorem law11 (n0 : Nat) (u0 : AV) (a0 : ArG P n0 42 u0) (n1 : Nat) (u1 : AV) (a1 : ArG P n1 98 u1) (n2 : Nat) (u2 : AV) (a2 : ArG P n2 84 u2) : FOk P 11 [u0, u1, u2] (.bool true) := by
  obtain ⟨h, rfl, _⟩ := arHead a0
  obtain ⟨l, rfl⟩ := arDirs a1
  obtain ⟨o, rfl⟩ := arInts a2
  exact k_ScanOrders h l o
end Sc
