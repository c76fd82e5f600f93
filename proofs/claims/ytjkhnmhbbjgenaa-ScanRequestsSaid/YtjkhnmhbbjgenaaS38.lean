import Derived.Test.YtjkhnmhbbjgenaaEngS9
import Derived.Test.YtjkhnmhbbjgenaaS37
open Go Go.Proofs Eng
set_option maxRecDepth 100000
set_option linter.unusedSimpArgs false
set_option linter.unusedVariables false
def a10 : AC := .seq (.ops false [] [⟨some 3, .box 42 7 1 true, [.t 0], none⟩, ⟨some 6, .p (.mov), [.c (.bool false)], none⟩]) (.seq (.seq (.ops false [] [⟨some 19, .call 15, [], none⟩, ⟨some 20, .p (.notB), [.t 19], none⟩]) (.cond (.t 20) (.seq (.ops false [] [⟨some 6, .p (.mov), [.c (.bool false)], none⟩]) (.ret)) (.skip))) (.seq (.seq (.ops false [] [⟨some 21, .load 7 true, [.t 3], none⟩, ⟨some 22, .call 23, [.t 21], none⟩, ⟨some 23, .p (.notB), [.t 22], none⟩, ⟨some 24, .p (.mov), [.t 23], none⟩, ⟨some 25, .p (.mov), [.t 1], some (24, false)⟩, ⟨some 26, .call 16, [.t 25], some (24, false)⟩, ⟨some 27, .p (.notB), [.t 26], some (24, false)⟩, ⟨some 28, .p (.pick), [.t 24, .c (.bool true), .t 27], none⟩, ⟨some 29, .p (.mov), [.t 28], none⟩, ⟨some 30, .p (.mov), [.t 2], some (29, false)⟩, ⟨some 31, .p (.lenS), [.t 30], some (29, false)⟩, ⟨some 32, .p (.binI .gtr), [.t 31, .c (.int .i64 12)], some (29, false)⟩, ⟨some 33, .p (.pick), [.t 29, .c (.bool true), .t 32], none⟩]) (.cond (.t 33) (.seq (.ops false [] [⟨some 6, .p (.mov), [.c (.bool true)], none⟩]) (.ret)) (.skip))) (.seq (.ops false [] [⟨some 35, .load 7 true, [.t 3], none⟩, ⟨some 36, .call 25, [.t 35], none⟩, ⟨some 37, .p (.mov), [.t 1], none⟩, ⟨some 38, .call 18, [.t 37], none⟩, ⟨some 39, .p (.mov), [.t 2], none⟩, ⟨some 40, .call 50, [.t 39], none⟩, ⟨some 41, .call 49, [.t 36, .t 38, .t 40], none⟩, ⟨some 34, .p (.mov), [.t 41], none⟩, ⟨some 42, .p (.ext 0), [.t 34], none⟩, ⟨some 43, .p (.ext 1), [.t 34], none⟩, ⟨some 7, .p (.mov), [.t 42], none⟩, ⟨some 8, .p (.mov), [.t 43], none⟩]) (.seq (.ops false [] [⟨some 44, .load 7 true, [.t 3], none⟩, ⟨some 45, .call 28, [.t 44], none⟩, ⟨some 9, .p (.mov), [.t 45], none⟩]) (.seq (.seq (.ops false [] [⟨some 46, .p (.mov), [.t 9], none⟩, ⟨some 47, .p (.binI .eql), [.t 46, .c (.int .i64 0)], none⟩]) (.cond (.t 47) (.ops false [] [⟨some 48, .p (.mov), [.t 1], none⟩, ⟨some 49, .call 29, [.t 48], none⟩, ⟨some 9, .p (.mov), [.t 49], none⟩]) (.skip))) (.seq (.ops false [] [⟨some 50, .p (.mov), [.t 9], none⟩, ⟨some 10, .p (.mov), [.t 50], none⟩]) (.seq (.seq (.ops false [] [⟨some 51, .p (.mov), [.t 9], none⟩, ⟨some 52, .p (.binI .eql), [.t 51, .c (.int .i64 0)], none⟩]) (.cond (.t 52) (.ops false [] [⟨some 53, .p (.mov), [.t 2], none⟩, ⟨some 54, .call 51, [.t 53], none⟩, ⟨some 9, .p (.mov), [.t 54], none⟩]) (.skip))) (.seq (.ops false [] [⟨some 11, .p (.mov), [.c (.nilslice)], none⟩]) (.seq (.seq (.ops false [] [⟨some 55, .p (.mov), [.t 10], none⟩, ⟨some 56, .p (.binI .eql), [.t 55, .c (.int .i64 0)], none⟩]) (.cond (.t 56) (.ops true [] [⟨some 57, .load 7 true, [.t 3], none⟩, ⟨some 58, .p (.mov), [.t 1], none⟩, ⟨some 59, .call 22, [.t 58], none⟩, ⟨some 60, .call 30, [.t 57, .t 59], none⟩, ⟨some 11, .p (.mov), [.t 60], none⟩]) (.skip))) (.seq (.seq (.ops false [] [⟨some 61, .p (.mov), [.t 9], none⟩, ⟨some 62, .p (.binI .neq), [.t 61, .c (.int .i64 0)], none⟩, ⟨some 63, .p (.mov), [.t 62], none⟩, ⟨some 64, .p (.mov), [.t 8], some (63, true)⟩, ⟨some 65, .p (.mov), [.t 9], some (63, true)⟩, ⟨some 66, .p (.binI .neq), [.t 64, .t 65], some (63, true)⟩, ⟨some 67, .p (.mov), [.t 66], some (63, true)⟩, ⟨some 68, .p (.mov), [.t 7], some (67, false)⟩, ⟨some 69, .p (.lenS), [.t 68], some (67, false)⟩, ⟨some 70, .p (.binI .neq), [.t 69, .c (.int .i64 0)], some (67, false)⟩, ⟨some 71, .p (.pick), [.t 67, .c (.bool true), .t 70], some (63, true)⟩, ⟨some 72, .p (.pick), [.t 63, .t 71, .c (.bool false)], none⟩, ⟨some 73, .p (.mov), [.t 72], none⟩, ⟨some 74, .p (.mov), [.t 9], some (73, false)⟩, ⟨some 75, .p (.binI .eql), [.t 74, .c (.int .i64 0)], some (73, false)⟩, ⟨some 76, .p (.mov), [.t 75], some (73, false)⟩, ⟨some 77, .p (.mov), [.t 8], some (76, true)⟩, ⟨some 78, .p (.binI .neq), [.t 77, .c (.int .i64 0)], some (76, true)⟩, ⟨some 79, .p (.mov), [.t 78], some (76, true)⟩, ⟨some 80, .p (.mov), [.t 7], some (79, false)⟩, ⟨some 81, .p (.mov), [.t 11], some (79, false)⟩, ⟨some 82, .p (.mov), [.t 2], some (79, false)⟩, ⟨some 83, .call 53, [.t 81, .t 82], some (79, false)⟩, ⟨some 84, .call 52, [.t 80, .t 83], some (79, false)⟩, ⟨some 85, .p (.notB), [.t 84], some (79, false)⟩, ⟨some 86, .p (.pick), [.t 79, .c (.bool true), .t 85], some (76, true)⟩, ⟨some 87, .p (.pick), [.t 76, .t 86, .c (.bool false)], some (73, false)⟩, ⟨some 88, .p (.pick), [.t 73, .c (.bool true), .t 87], none⟩]) (.cond (.t 88) (.seq (.ops false [] [⟨some 6, .p (.mov), [.c (.bool false)], none⟩]) (.ret)) (.skip))) (.seq (.seq (.ops false [] [⟨some 89, .p (.mov), [.t 2], none⟩, ⟨some 90, .p (.lenS), [.t 89], none⟩, ⟨some 91, .p (.binI .eql), [.t 90, .c (.int .i64 0)], none⟩]) (.cond (.t 91) (.seq (.ops false [] [⟨some 6, .p (.mov), [.c (.bool true)], none⟩]) (.ret)) (.skip))) (.seq (.ops true [] [⟨some 93, .load 7 true, [.t 3], none⟩, ⟨some 94, .call 25, [.t 93], none⟩, ⟨some 95, .p (.mov), [.t 1], none⟩, ⟨some 96, .call 18, [.t 95], none⟩, ⟨some 97, .p (.mov), [.t 2], none⟩, ⟨some 98, .p (.iaddrS 3), [.t 97, .c (.int .i64 0)], none⟩, ⟨some 99, .load 3 true, [.t 98], none⟩, ⟨some 100, .call 54, [.t 94, .t 96, .t 99], none⟩, ⟨some 92, .p (.mov), [.t 100], none⟩, ⟨some 101, .p (.ext 0), [.t 92], none⟩, ⟨some 102, .p (.ext 1), [.t 92], none⟩, ⟨some 12, .p (.mov), [.t 101], none⟩, ⟨some 13, .p (.mov), [.t 102], none⟩]) (.seq (.seq (.ops false [] [⟨some 103, .p (.mov), [.t 10], none⟩, ⟨some 104, .p (.binI .eql), [.t 103, .c (.int .i64 0)], none⟩]) (.cond (.t 104) (.ops false [] [⟨some 105, .p (.mov), [.t 2], none⟩, ⟨some 106, .p (.iaddrS 3), [.t 105, .c (.int .i64 0)], none⟩, ⟨some 107, .load 3 true, [.t 106], none⟩, ⟨some 108, .call 55, [.t 107], none⟩, ⟨some 10, .p (.mov), [.t 108], none⟩]) (.skip))) (.seq (.seq (.ops false [] [⟨some 109, .p (.mov), [.t 10], none⟩, ⟨some 110, .p (.binI .neq), [.t 109, .c (.int .i64 0)], none⟩]) (.cond (.t 110) (.seq (.ops false [] [⟨some 111, .p (.mov), [.t 13], none⟩, ⟨some 112, .p (.mov), [.t 10], none⟩, ⟨some 113, .p (.binI .eql), [.t 111, .t 112], none⟩, ⟨some 114, .p (.mov), [.t 113], none⟩, ⟨some 115, .p (.mov), [.t 12], some (114, true)⟩, ⟨some 116, .p (.binI .eql), [.t 115, .c (.int .i64 0)], some (114, true)⟩, ⟨some 117, .p (.pick), [.t 114, .t 116, .c (.bool false)], none⟩, ⟨some 6, .p (.mov), [.t 117], none⟩]) (.ret)) (.skip))) (.seq (.ops false [] [⟨some 119, .p (.mov), [.t 11], none⟩, ⟨some 120, .p (.mov), [.t 2], none⟩, ⟨some 121, .p (.iaddrS 3), [.t 120, .c (.int .i64 0)], none⟩, ⟨some 122, .load 3 true, [.t 121], none⟩, ⟨some 123, .call 56, [.t 119, .t 122], none⟩, ⟨some 118, .p (.mov), [.t 123], none⟩, ⟨some 124, .p (.ext 0), [.t 118], none⟩, ⟨some 125, .p (.ext 1), [.t 118], none⟩, ⟨some 14, .p (.mov), [.t 124], none⟩, ⟨some 15, .p (.mov), [.t 125], none⟩]) (.seq (.seq (.ops false [] [⟨some 126, .p (.mov), [.t 15], none⟩, ⟨some 127, .p (.notB), [.t 126], none⟩]) (.cond (.t 127) (.seq (.ops false [] [⟨some 128, .p (.mov), [.t 13], none⟩, ⟨some 129, .p (.binI .eql), [.t 128, .c (.int .i64 12)], none⟩, ⟨some 130, .p (.mov), [.t 129], none⟩, ⟨some 131, .p (.mov), [.t 12], some (130, true)⟩, ⟨some 132, .p (.binI .eql), [.t 131, .c (.int .i64 0)], some (130, true)⟩, ⟨some 133, .p (.pick), [.t 130, .t 132, .c (.bool false)], none⟩, ⟨some 6, .p (.mov), [.t 133], none⟩]) (.ret)) (.skip))) (.seq (.seq (.ops false [] [⟨some 134, .p (.mov), [.t 13], none⟩, ⟨some 135, .p (.binI .neq), [.t 134, .c (.int .i64 0)], none⟩, ⟨some 136, .p (.mov), [.t 135], none⟩, ⟨some 137, .p (.mov), [.t 12], some (136, false)⟩, ⟨some 138, .p (.mov), [.t 14], some (136, false)⟩, ⟨some 139, .p (.binI .neq), [.t 137, .t 138], some (136, false)⟩, ⟨some 140, .p (.pick), [.t 136, .c (.bool true), .t 139], none⟩, ⟨some 141, .p (.mov), [.t 140], none⟩, ⟨some 142, .p (.mov), [.t 12], some (141, false)⟩, ⟨some 143, .p (.mov), [.t 11], some (141, false)⟩, ⟨some 144, .call 33, [.t 143], some (141, false)⟩, ⟨some 145, .p (.binI .gtr), [.t 142, .t 144], some (141, false)⟩, ⟨some 146, .p (.pick), [.t 141, .c (.bool true), .t 145], none⟩]) (.cond (.t 146) (.seq (.ops false [] [⟨some 6, .p (.mov), [.c (.bool false)], none⟩]) (.ret)) (.skip))) (.seq (.ops false [] [⟨some 147, .p (.mov), [.t 2], none⟩, ⟨some 148, .p (.iaddrS 3), [.t 147, .c (.int .i64 0)], none⟩, ⟨some 149, .load 3 true, [.t 148], none⟩, ⟨some 16, .alloc 93 3 [.agg [.int .i64 0, .int .i64 0, .int .i64 0]], [], none⟩, ⟨none, .store 3 true, [.t 16, .t 149], none⟩]) (.seq (.ops false [] [⟨some 150, .p (.faddr 2), [.t 16], none⟩, ⟨some 151, .load 1 false, [.t 150], none⟩, ⟨some 152, .p (.binI .add), [.t 151, .c (.int .i64 1)], none⟩, ⟨some 153, .p (.mm false), [.c (.int .i64 20), .t 152], none⟩, ⟨some 154, .p (.faddr 2), [.t 16], none⟩, ⟨none, .store 1 false, [.t 154, .t 153], none⟩]) (.seq (.ops true [] [⟨some 156, .load 7 true, [.t 3], none⟩, ⟨some 157, .call 25, [.t 156], none⟩, ⟨some 158, .p (.mov), [.t 1], none⟩, ⟨some 159, .call 18, [.t 158], none⟩, ⟨some 160, .load 3 true, [.t 16], none⟩, ⟨some 161, .call 54, [.t 157, .t 159, .t 160], none⟩, ⟨some 155, .p (.mov), [.t 161], none⟩, ⟨some 162, .p (.ext 0), [.t 155], none⟩, ⟨some 163, .p (.ext 1), [.t 155], none⟩, ⟨some 17, .p (.mov), [.t 162], none⟩, ⟨some 18, .p (.mov), [.t 163], none⟩]) (.seq (.ops false [] [⟨some 164, .p (.mov), [.t 18], none⟩, ⟨some 165, .p (.binI .eql), [.t 164, .c (.int .i64 0)], none⟩, ⟨some 166, .p (.mov), [.t 165], none⟩, ⟨some 167, .p (.mov), [.t 17], some (166, true)⟩, ⟨some 168, .p (.mov), [.t 12], some (166, true)⟩, ⟨some 169, .p (.binI .leq), [.t 167, .t 168], some (166, true)⟩, ⟨some 170, .p (.pick), [.t 166, .t 169, .c (.bool false)], none⟩, ⟨some 6, .p (.mov), [.t 170], none⟩]) (.ret))))))))))))))))))))))
theorem c10 : FnC Try.prog 10 171 a10 [.tmp 6] := ⟨Try.call10, _, _, Try.func10, rfl, by kernel_rfl, by kernel_rfl, rfl⟩
namespace Sc
set_option maxHeartbeats 4000000 in
theorem k_ScanRequests (h : Hd) (l : Sps) (rs : List Rq) : FOk P 10 [eHd h, .vs (eSps l), .vs (rs.map eRq)] (.bool true) := by
  by_cases h8 : (h.res.length : Int) ≤ 8
  · have yf := x_Few l
    by_cases hf : fewB l = true
    · rw [hf] at yf
      by_cases h12 : (rs.length : Int) ≤ 12
      · have h12' : (12 < (rs.length : Int)) = False := by simp only [eq_iff_iff, iff_false]; omega
        have hl : h.res.length ≤ 1000 := by omega
        have hl' : h.res.length ≤ 1099511627776 := by omega
        have hrl : rs.length ≤ 1000 := by omega
        have yh := x_CopyHead h (by simp only [hl])
        have yc := x_Copy 5 l (few_wgh hf)
        have yq := x_CopyRequests rs (by simp only [hrl])
        have y1 := x_UnmetBy h l rs (by simp only [eq_iff_iff, iff_true]; exact ⟨hl', hrl⟩)
        have y2 := x_rHeadErr h (by simp only [hl])
        have y3 := x_rStepsErr l
        have y4 := x_rRequestsErr rs (by simp only [hrl])
        have hv := vsE_val h l
        have hu := umE_val h l rs
        by_cases h0 : vsE h l = 0
        · obtain ⟨r1, r2, r3⟩ := runs_ok h0
          obtain ⟨c1, c2⟩ := vsE_home h0
          obtain ⟨x, hx1, hx2⟩ := vsL_last h0
          obtain ⟨hk, h60⟩ := ckC_ok c1
          have hvl : (vsL h l).length = (stopsAll 2 l).length := visL_len h _ _ _
          have hvd : ∀ v ∈ vsL h l, drR ⟨v.az, v.el⟩ := visL_dr r2.2
          have hbd : ∀ v ∈ vsL h l, (0 ≤ v.fr ∧ v.fr ≤ 0 + 1450 * (stopsAll 2 l).length) ∧ 0 ≤ v.to ∧ v.to ≤ 0 + 1450 * (stopsAll 2 l).length := visL_bd r1.1.1 r1.1.2 r2.2 r1.2
          have hasc : asc 0 (vsL h l) := visL_asc r1.1.1 r1.1.2 r2.2 r1.2
          have y5 := x_rStops 2 l hk (by omega)
          have y6 := x_rVisits h (stopsAll 2 l) (by simp only [eq_iff_iff, iff_true]; exact ⟨r1, r2⟩)
          have y7 := x_rDuration (vsL h l) x hx1 (by omega)
          rw [if_pos h0] at hu
          rw [h0, if_pos c2] at hv
          rw [c2] at y2
          rw [c1] at y3
          have hgp : ∀ r, gpE h l r = 0 → cf_LongestGap [eHd h, .vs (eSps l), .agg [I r.az, I r.el, I r.tol]] = some (if (gpG r (0, 0, false) (vsL h l)).2.2 = true then .tup [I (max (gpG r (0, 0, false) (vsL h l)).1 (x.to - (gpG r (0, 0, false) (vsL h l)).2.1)), I 0] else .tup [I 0, I 12]) := fun r hr => by
            have := x_LongestGap h l r (by simp only [hl'])
            rw [gpV, if_pos hr, hx2] at this
            exact this
          have hgn : ∀ r, ¬ gpE h l r = 0 → cf_LongestGap [eHd h, .vs (eSps l), .agg [I r.az, I r.el, I r.tol]] = some (.tup [I 0, I (gpE h l r)]) := fun r hr => by
            have := x_LongestGap h l r (by simp only [hl'])
            rw [gpV, if_neg hr] at this
            exact this
          have hge : ∀ r, gpE h l r = rqE r := fun r => by rw [gpE, h0, fE2, if_pos rfl]
          have hub : rqsE rs = 0 → unB (vsL h l) rs := fun hz => by
            have h10 : (rs.length : Int) ≤ 10 := by
              unfold rqsE at hz
              split at hz
              · assumption
              · cases hz
            rw [rqsE, if_pos h10] at hz
            exact ⟨⟨by omega, hvd⟩, hrl, fun r hr => rqE_dr (rqF_zero hz r hr)⟩
          have hga : ∀ r, rqE r = 0 → gaB (vsL h l) r := fun r hr => ⟨⟨by omega, rqE_dr hr⟩, fun v hv => ⟨hvd v hv, by have := hbd v hv; omega, by have := hbd v hv; omega⟩⟩
          unfold vsL at y7
          have hrg : ∀ r, rqE r = 0 → cf_rGap [.vs ((visL h 0 h.home (stopsAll 2 l)).map eVi), .agg [I r.az, I r.el, I r.tol]] = some (gaV x (gpG r (0, 0, false) (vsL h l))) := fun r hr => x_rGap (vsL h l) r x hx1 (hga r hr)
          have hlu := umL_len (vsL h l) rs 0
          have yi := x_Ints (umL (vsL h l) 0 rs) (umL (vsL h l) 0 rs) (by simp only [eq_iff_iff, iff_true]; omega)
          rw [decide_eq_true rfl] at yi
          obtain ⟨al1, al2⟩ := asc_last hasc hx1
          have hru : rqsE rs = 0 → cf_rUnmet [.vs ((visL h 0 h.home (stopsAll 2 l)).map eVi), .vs (rs.map eRq)] = some (.vs ((umL (vsL h l) 0 rs).map eI)) := fun hz => x_rUnmet (vsL h l) rs (by simp only [eq_iff_iff, iff_true]; exact hub hz)
          have hxb := hbd x (List.mem_of_getLast? hx1)
          by_cases hz : rqsE rs = 0
          · have yu := hru hz
            rw [hz] at hu y4
            rw [umV, if_pos hu] at y1
            cases rs with
            | nil =>
              simp only [List.map_nil] at y1 yq y4 yu h12'
              refine c10.fok (by simp only [free_Hs, subs, sub1, free_Se, free_Sps, free_Rq]) (Cor.run (addC_good (g_Copy 5) (addC_good (g_rStops 2) (addC_good g_rDuration (addC_good g_rGap (addC_good g_rRequestErr (addC_good g_LongestGap (addC_good g_Ints (addC_good g_rUnmet (addC_good g_rVisits (addC_good g_rRequestsErr (addC_good g_rStepsErr (addC_good g_rHeadErr (addC_good g_UnmetBy (addC_good g_CopyRequests (addC_good g_CopyHead (addC_good g_Few (addC_good g_few (addC_good g_awake (noC_good _))))))))))))))))))) (noHx_good _) hm ?_)
              simp +contextual -implicitDefEqProofs (maxSteps := 2000000) only [bg_eq, a10, nz0, x_awake, x_few, yh, yf, yc, yq, y1, y2, y3, y4, h8, h12', free_St, free_Vi, free_I, List.map_nil, List.map_cons, List.length_map, List.length_cons, y5, y6, yu, yi, not_true_eq_false, not_false_eq_true, ne_eq, ruB, rh_no, Int.reduceLT, Int.reduceLE, Int.reduceAdd, Int.reduceSub, Int.reduceMul, Int.reduceNeg, Int.reduceToNat, Int.reduceEq, Int.reduceNe, Int.reduceTDiv, Int.reduceTMod, implies_true, putL, appN, appX, appC, Eng.Fi, reduceCtorEq, exists_eq_left', exists_eq_left, if_true, if_false, List.replicate, Nat.reduceAdd, Nat.reduceSub, Nat.reduceMul, Nat.reduceLeDiff, Nat.reduceLT, Nat.reduceEqDiff]
            | cons r q =>
              have hr : rqE r = 0 := by
                rw [rqsE] at hz
                split at hz
                · exact rqF_zero hz r (by simp)
                · cases hz
              have hi0 : (((q.length : Int) + 1) = 0) = False := by simp only [eq_iff_iff, iff_false]; omega
              simp only [List.map_cons] at y1 yq y4 yu
              simp only [List.length_cons] at h12'
              have hq0 : gpE h l r = 0 := by rw [hge, hr]
              have yr : cf_rRequestErr [.agg [I r.az, I r.el, I r.tol]] = some (I 0) := by rw [← hr]; exact x_rRequestErr r
              have yg := hgp r hq0
              have yG := hrg r hr
              have hmono := gap_mono (r := r) (r' := ⟨r.az, r.el, min 20 (r.tol + 1)⟩) rfl rfl (by have := (unl_zero (firstE_zero hr (unl (0 ≤ r.tol ∧ r.tol ≤ 20) 2) (by simp)) (by decide)); simp only; omega) x.to (vsL h l) 0 (0, 0, false) (0, 0, false) hasc al2 al1 (Int.le_refl _) (Int.le_refl _) (by simp) (fun h => h)
              have hdur := gap_dur (r := r) x.to (vsL h l) 0 (0, 0, false) hasc al2 (Int.le_refl _) al1 (Int.le_refl _)
              have htol := (unl_zero (firstE_zero hr (unl (0 ≤ r.tol ∧ r.tol ≤ 20) 2) (by simp)) (by decide))
              have hw0 : gpE h l ⟨r.az, r.el, min 20 (r.tol + 1)⟩ = 0 := by
                rw [hge, rqE_val]
                have e1 : drE ⟨r.az, r.el⟩ = 0 := firstE_zero hr _ (by simp)
                simp only
                rw [if_pos e1, unl_t 2 (by omega)]
              have yw := hgp _ hw0
              have ww : IntKind.wrap .i64 (r.tol + 1) = r.tol + 1 := wrap64 (by omega) (by omega)
              simp only [gaV] at yG
              simp only at yw
              generalize gpG ⟨r.az, r.el, min 20 (r.tol + 1)⟩ (0, 0, false) (vsL h l) = p2 at *
              generalize gpG r (0, 0, false) (vsL h l) = p1 at *
              cases hme : p1.2.2 with
              | true =>
                have hme2 := hmono.2 hme
                rw [if_pos hme] at yg
                rw [if_pos hme2] at yw
                rw [hme] at yG
                have u1 : (x.to < max p1.1 (x.to - p1.2.1)) = False := by simp only [eq_iff_iff, iff_false]; omega
                have u2 := eq_true hmono.1
                generalize max p1.1 (x.to - p1.2.1) = g1 at *
                generalize max p2.1 (x.to - p2.2.1) = g2 at *
                refine c10.fok (by simp only [free_Hs, subs, sub1, free_Se, free_Sps, free_Rq]) (Cor.run (addC_good (g_Copy 5) (addC_good (g_rStops 2) (addC_good g_rDuration (addC_good g_rGap (addC_good g_rRequestErr (addC_good g_LongestGap (addC_good g_Ints (addC_good g_rUnmet (addC_good g_rVisits (addC_good g_rRequestsErr (addC_good g_rStepsErr (addC_good g_rHeadErr (addC_good g_UnmetBy (addC_good g_CopyRequests (addC_good g_CopyHead (addC_good g_Few (addC_good g_few (addC_good g_awake (noC_good _))))))))))))))))))) (noHx_good _) hm ?_)
                simp +contextual -implicitDefEqProofs (maxSteps := 2000000) only [bg_eq, a10, nz0, x_awake, x_few, yh, yf, yc, yq, y1, y2, y3, y4, h8, h12', free_St, free_Vi, free_I, List.map_nil, List.map_cons, List.length_map, List.length_cons, y5, y6, y7, yr, yg, yG, yw, ww, u1, u2, yu, yi, not_true_eq_false, not_false_eq_true, ne_eq, ruB, rh_no, Int.reduceLT, Int.reduceLE, Int.reduceAdd, Int.reduceSub, Int.reduceMul, Int.reduceNeg, Int.reduceToNat, Int.reduceEq, Int.reduceNe, Int.reduceTDiv, Int.reduceTMod, implies_true, putL, appN, appX, appC, Eng.Fi, reduceCtorEq, exists_eq_left', exists_eq_left, if_true, if_false, List.replicate, Nat.reduceAdd, Nat.reduceSub, Nat.reduceMul, Nat.reduceLeDiff, Nat.reduceLT, Nat.reduceEqDiff]
              | false =>
                rw [if_neg (by rw [hme]; decide)] at yg
                rw [hme] at yG
                refine c10.fok (by simp only [free_Hs, subs, sub1, free_Se, free_Sps, free_Rq]) (Cor.run (addC_good (g_Copy 5) (addC_good (g_rStops 2) (addC_good g_rDuration (addC_good g_rGap (addC_good g_rRequestErr (addC_good g_LongestGap (addC_good g_Ints (addC_good g_rUnmet (addC_good g_rVisits (addC_good g_rRequestsErr (addC_good g_rStepsErr (addC_good g_rHeadErr (addC_good g_UnmetBy (addC_good g_CopyRequests (addC_good g_CopyHead (addC_good g_Few (addC_good g_few (addC_good g_awake (noC_good _))))))))))))))))))) (noHx_good _) hm ?_)
                simp +contextual -implicitDefEqProofs (maxSteps := 2000000) only [bg_eq, a10, nz0, x_awake, x_few, yh, yf, yc, yq, y1, y2, y3, y4, h8, h12', free_St, free_Vi, free_I, List.map_nil, List.map_cons, List.length_map, List.length_cons, y5, y6, y7, yr, yg, yG, yu, yi, not_true_eq_false, not_false_eq_true, ne_eq, ruB, rh_no, Int.reduceLT, Int.reduceLE, Int.reduceAdd, Int.reduceSub, Int.reduceMul, Int.reduceNeg, Int.reduceToNat, Int.reduceEq, Int.reduceNe, Int.reduceTDiv, Int.reduceTMod, implies_true, putL, appN, appX, appC, Eng.Fi, reduceCtorEq, exists_eq_left', exists_eq_left, if_true, if_false, List.replicate, Nat.reduceAdd, Nat.reduceSub, Nat.reduceMul, Nat.reduceLeDiff, Nat.reduceLT, Nat.reduceEqDiff]
          · have hz' := hz
            rw [umV, if_neg (by rw [hu]; exact hz), hu] at y1
            cases rs with
            | nil => exact absurd rfl hz
            | cons r q =>
              simp only [List.map_cons] at y1 yq y4
              simp only [List.length_cons] at h12'
              generalize rqsE (r :: q) = ze at *
              by_cases hr : rqE r = 0
              · have hq0 : gpE h l r = 0 := by rw [hge, hr]
                have yr : cf_rRequestErr [.agg [I r.az, I r.el, I r.tol]] = some (I 0) := by rw [← hr]; exact x_rRequestErr r
                have yg := hgp r hq0
                have yG := hrg r hr
                have hmono := gap_mono (r := r) (r' := ⟨r.az, r.el, min 20 (r.tol + 1)⟩) rfl rfl (by have := (unl_zero (firstE_zero hr (unl (0 ≤ r.tol ∧ r.tol ≤ 20) 2) (by simp)) (by decide)); simp only; omega) x.to (vsL h l) 0 (0, 0, false) (0, 0, false) hasc al2 al1 (Int.le_refl _) (Int.le_refl _) (by simp) (fun h => h)
                have hdur := gap_dur (r := r) x.to (vsL h l) 0 (0, 0, false) hasc al2 (Int.le_refl _) al1 (Int.le_refl _)
                have htol := (unl_zero (firstE_zero hr (unl (0 ≤ r.tol ∧ r.tol ≤ 20) 2) (by simp)) (by decide))
                have hw0 : gpE h l ⟨r.az, r.el, min 20 (r.tol + 1)⟩ = 0 := by
                  rw [hge, rqE_val]
                  have e1 : drE ⟨r.az, r.el⟩ = 0 := firstE_zero hr _ (by simp)
                  simp only
                  rw [if_pos e1, unl_t 2 (by omega)]
                have yw := hgp _ hw0
                have ww : IntKind.wrap .i64 (r.tol + 1) = r.tol + 1 := wrap64 (by omega) (by omega)
                simp only [gaV] at yG
                simp only at yw
                generalize gpG ⟨r.az, r.el, min 20 (r.tol + 1)⟩ (0, 0, false) (vsL h l) = p2 at *
                generalize gpG r (0, 0, false) (vsL h l) = p1 at *
                cases hme : p1.2.2 with
                | true =>
                  have hme2 := hmono.2 hme
                  rw [if_pos hme] at yg
                  rw [if_pos hme2] at yw
                  rw [hme] at yG
                  have u1 : (x.to < max p1.1 (x.to - p1.2.1)) = False := by simp only [eq_iff_iff, iff_false]; omega
                  have u2 := eq_true hmono.1
                  generalize max p1.1 (x.to - p1.2.1) = g1 at *
                  generalize max p2.1 (x.to - p2.2.1) = g2 at *
                  refine c10.fok (by simp only [free_Hs, subs, sub1, free_Se, free_Sps, free_Rq]) (Cor.run (addC_good (g_Copy 5) (addC_good (g_rStops 2) (addC_good g_rDuration (addC_good g_rGap (addC_good g_rRequestErr (addC_good g_LongestGap (addC_good g_Ints (addC_good g_rUnmet (addC_good g_rVisits (addC_good g_rRequestsErr (addC_good g_rStepsErr (addC_good g_rHeadErr (addC_good g_UnmetBy (addC_good g_CopyRequests (addC_good g_CopyHead (addC_good g_Few (addC_good g_few (addC_good g_awake (noC_good _))))))))))))))))))) (noHx_good _) hm ?_)
                  simp +contextual -implicitDefEqProofs (maxSteps := 2000000) only [bg_eq, a10, nz0, x_awake, x_few, yh, yf, yc, yq, y1, y2, y3, y4, h8, h12', free_St, free_Vi, free_I, List.map_nil, List.map_cons, List.length_map, List.length_cons, y5, y6, y7, yr, yg, yG, yw, ww, u1, u2, hz, not_true_eq_false, not_false_eq_true, ne_eq, ruB, rh_no, Int.reduceLT, Int.reduceLE, Int.reduceAdd, Int.reduceSub, Int.reduceMul, Int.reduceNeg, Int.reduceToNat, Int.reduceEq, Int.reduceNe, Int.reduceTDiv, Int.reduceTMod, implies_true, putL, appN, appX, appC, Eng.Fi, reduceCtorEq, exists_eq_left', exists_eq_left, if_true, if_false, List.replicate, Nat.reduceAdd, Nat.reduceSub, Nat.reduceMul, Nat.reduceLeDiff, Nat.reduceLT, Nat.reduceEqDiff]
                | false =>
                  rw [if_neg (by rw [hme]; decide)] at yg
                  rw [hme] at yG
                  refine c10.fok (by simp only [free_Hs, subs, sub1, free_Se, free_Sps, free_Rq]) (Cor.run (addC_good (g_Copy 5) (addC_good (g_rStops 2) (addC_good g_rDuration (addC_good g_rGap (addC_good g_rRequestErr (addC_good g_LongestGap (addC_good g_Ints (addC_good g_rUnmet (addC_good g_rVisits (addC_good g_rRequestsErr (addC_good g_rStepsErr (addC_good g_rHeadErr (addC_good g_UnmetBy (addC_good g_CopyRequests (addC_good g_CopyHead (addC_good g_Few (addC_good g_few (addC_good g_awake (noC_good _))))))))))))))))))) (noHx_good _) hm ?_)
                  simp +contextual -implicitDefEqProofs (maxSteps := 2000000) only [bg_eq, a10, nz0, x_awake, x_few, yh, yf, yc, yq, y1, y2, y3, y4, h8, h12', free_St, free_Vi, free_I, List.map_nil, List.map_cons, List.length_map, List.length_cons, y5, y6, y7, yr, yg, yG, hz, not_true_eq_false, not_false_eq_true, ne_eq, ruB, rh_no, Int.reduceLT, Int.reduceLE, Int.reduceAdd, Int.reduceSub, Int.reduceMul, Int.reduceNeg, Int.reduceToNat, Int.reduceEq, Int.reduceNe, Int.reduceTDiv, Int.reduceTMod, implies_true, putL, appN, appX, appC, Eng.Fi, reduceCtorEq, exists_eq_left', exists_eq_left, if_true, if_false, List.replicate, Nat.reduceAdd, Nat.reduceSub, Nat.reduceMul, Nat.reduceLeDiff, Nat.reduceLT, Nat.reduceEqDiff]
              · have yg := hgn r (by rw [hge]; exact hr)
                rw [hge] at yg
                have yr := x_rRequestErr r
                refine c10.fok (by simp only [free_Hs, subs, sub1, free_Se, free_Sps, free_Rq]) (Cor.run (addC_good (g_Copy 5) (addC_good (g_rStops 2) (addC_good g_rDuration (addC_good g_rGap (addC_good g_rRequestErr (addC_good g_LongestGap (addC_good g_Ints (addC_good g_rUnmet (addC_good g_rVisits (addC_good g_rRequestsErr (addC_good g_rStepsErr (addC_good g_rHeadErr (addC_good g_UnmetBy (addC_good g_CopyRequests (addC_good g_CopyHead (addC_good g_Few (addC_good g_few (addC_good g_awake (noC_good _))))))))))))))))))) (noHx_good _) hm ?_)
                simp +contextual -implicitDefEqProofs (maxSteps := 2000000) only [bg_eq, a10, nz0, x_awake, x_few, yh, yf, yc, yq, y1, y2, y3, y4, h8, h12', free_St, free_Vi, free_I, List.map_nil, List.map_cons, List.length_map, List.length_cons, y5, y6, y7, yr, yg, hz, hr, not_true_eq_false, not_false_eq_true, ne_eq, ruB, rh_no, Int.reduceLT, Int.reduceLE, Int.reduceAdd, Int.reduceSub, Int.reduceMul, Int.reduceNeg, Int.reduceToNat, Int.reduceEq, Int.reduceNe, Int.reduceTDiv, Int.reduceTMod, implies_true, putL, appN, appX, appC, Eng.Fi, reduceCtorEq, exists_eq_left', exists_eq_left, if_true, if_false, List.replicate, Nat.reduceAdd, Nat.reduceSub, Nat.reduceMul, Nat.reduceLeDiff, Nat.reduceLT, Nat.reduceEqDiff]
        · rw [umV, if_neg (by rw [hu, if_neg h0]; exact h0), hu, if_neg h0] at y1
          have hgn : ∀ r : Rq, cf_LongestGap [eHd h, .vs (eSps l), .agg [I r.az, I r.el, I r.tol]] = some (.tup [I 0, I (vsE h l)]) := fun r => by
            have := x_LongestGap h l r (by simp only [hl'])
            have hq : gpE h l r = vsE h l := by rw [gpE, fE2, if_neg h0]
            rw [gpV, if_neg (by rw [hq]; exact h0), hq] at this
            exact this
          by_cases c2 : hdE h = 0
          · rw [if_pos c2] at hv
            rw [hv] at y1 h0
            rw [hv] at hgn
            cases rs with
            | nil =>
              simp only [List.map_nil] at y1 yq h12'
              refine c10.fok (by simp only [free_Hs, subs, sub1, free_Se, free_Sps, free_Rq]) (Cor.run (addC_good (g_Copy 5) (addC_good (g_rStops 2) (addC_good g_rDuration (addC_good g_rGap (addC_good g_rRequestErr (addC_good g_LongestGap (addC_good g_Ints (addC_good g_rUnmet (addC_good g_rVisits (addC_good g_rRequestsErr (addC_good g_rStepsErr (addC_good g_rHeadErr (addC_good g_UnmetBy (addC_good g_CopyRequests (addC_good g_CopyHead (addC_good g_Few (addC_good g_few (addC_good g_awake (noC_good _))))))))))))))))))) (noHx_good _) hm ?_)
              simp +contextual -implicitDefEqProofs (maxSteps := 2000000) only [bg_eq, a10, nz0, x_awake, x_few, yh, yf, yc, yq, y1, y2, y3, y4, h8, h12', free_St, free_Vi, free_I, List.map_nil, List.map_cons, List.length_map, List.length_cons, c2, h0, not_true_eq_false, not_false_eq_true, ne_eq, ruB, rh_no, Int.reduceLT, Int.reduceLE, Int.reduceAdd, Int.reduceSub, Int.reduceMul, Int.reduceNeg, Int.reduceToNat, Int.reduceEq, Int.reduceNe, Int.reduceTDiv, Int.reduceTMod, implies_true, putL, appN, appX, appC, Eng.Fi, reduceCtorEq, exists_eq_left', exists_eq_left, if_true, if_false, List.replicate, Nat.reduceAdd, Nat.reduceSub, Nat.reduceMul, Nat.reduceLeDiff, Nat.reduceLT, Nat.reduceEqDiff]
            | cons r q =>
              have yg := hgn r
              simp only [List.map_cons] at y1 yq
              simp only [List.length_cons] at h12'
              refine c10.fok (by simp only [free_Hs, subs, sub1, free_Se, free_Sps, free_Rq]) (Cor.run (addC_good (g_Copy 5) (addC_good (g_rStops 2) (addC_good g_rDuration (addC_good g_rGap (addC_good g_rRequestErr (addC_good g_LongestGap (addC_good g_Ints (addC_good g_rUnmet (addC_good g_rVisits (addC_good g_rRequestsErr (addC_good g_rStepsErr (addC_good g_rHeadErr (addC_good g_UnmetBy (addC_good g_CopyRequests (addC_good g_CopyHead (addC_good g_Few (addC_good g_few (addC_good g_awake (noC_good _))))))))))))))))))) (noHx_good _) hm ?_)
              simp +contextual -implicitDefEqProofs (maxSteps := 2000000) only [bg_eq, a10, nz0, x_awake, x_few, yh, yf, yc, yq, y1, y2, y3, y4, h8, h12', free_St, free_Vi, free_I, List.map_nil, List.map_cons, List.length_map, List.length_cons, c2, h0, yg, not_true_eq_false, not_false_eq_true, ne_eq, ruB, rh_no, Int.reduceLT, Int.reduceLE, Int.reduceAdd, Int.reduceSub, Int.reduceMul, Int.reduceNeg, Int.reduceToNat, Int.reduceEq, Int.reduceNe, Int.reduceTDiv, Int.reduceTMod, implies_true, putL, appN, appX, appC, Eng.Fi, reduceCtorEq, exists_eq_left', exists_eq_left, if_true, if_false, List.replicate, Nat.reduceAdd, Nat.reduceSub, Nat.reduceMul, Nat.reduceLeDiff, Nat.reduceLT, Nat.reduceEqDiff]
          · rw [if_neg c2] at hv
            rw [hv] at y1 h0
            rw [hv] at hgn
            cases rs with
            | nil =>
              simp only [List.map_nil] at y1 yq h12'
              refine c10.fok (by simp only [free_Hs, subs, sub1, free_Se, free_Sps, free_Rq]) (Cor.run (addC_good (g_Copy 5) (addC_good (g_rStops 2) (addC_good g_rDuration (addC_good g_rGap (addC_good g_rRequestErr (addC_good g_LongestGap (addC_good g_Ints (addC_good g_rUnmet (addC_good g_rVisits (addC_good g_rRequestsErr (addC_good g_rStepsErr (addC_good g_rHeadErr (addC_good g_UnmetBy (addC_good g_CopyRequests (addC_good g_CopyHead (addC_good g_Few (addC_good g_few (addC_good g_awake (noC_good _))))))))))))))))))) (noHx_good _) hm ?_)
              simp +contextual -implicitDefEqProofs (maxSteps := 2000000) only [bg_eq, a10, nz0, x_awake, x_few, yh, yf, yc, yq, y1, y2, y3, y4, h8, h12', free_St, free_Vi, free_I, List.map_nil, List.map_cons, List.length_map, List.length_cons, c2, not_true_eq_false, not_false_eq_true, ne_eq, ruB, rh_no, Int.reduceLT, Int.reduceLE, Int.reduceAdd, Int.reduceSub, Int.reduceMul, Int.reduceNeg, Int.reduceToNat, Int.reduceEq, Int.reduceNe, Int.reduceTDiv, Int.reduceTMod, implies_true, putL, appN, appX, appC, Eng.Fi, reduceCtorEq, exists_eq_left', exists_eq_left, if_true, if_false, List.replicate, Nat.reduceAdd, Nat.reduceSub, Nat.reduceMul, Nat.reduceLeDiff, Nat.reduceLT, Nat.reduceEqDiff]
            | cons r q =>
              have yg := hgn r
              simp only [List.map_cons] at y1 yq
              simp only [List.length_cons] at h12'
              refine c10.fok (by simp only [free_Hs, subs, sub1, free_Se, free_Sps, free_Rq]) (Cor.run (addC_good (g_Copy 5) (addC_good (g_rStops 2) (addC_good g_rDuration (addC_good g_rGap (addC_good g_rRequestErr (addC_good g_LongestGap (addC_good g_Ints (addC_good g_rUnmet (addC_good g_rVisits (addC_good g_rRequestsErr (addC_good g_rStepsErr (addC_good g_rHeadErr (addC_good g_UnmetBy (addC_good g_CopyRequests (addC_good g_CopyHead (addC_good g_Few (addC_good g_few (addC_good g_awake (noC_good _))))))))))))))))))) (noHx_good _) hm ?_)
              simp +contextual -implicitDefEqProofs (maxSteps := 2000000) only [bg_eq, a10, nz0, x_awake, x_few, yh, yf, yc, yq, y1, y2, y3, y4, h8, h12', free_St, free_Vi, free_I, List.map_nil, List.map_cons, List.length_map, List.length_cons, c2, yg, not_true_eq_false, not_false_eq_true, ne_eq, ruB, rh_no, Int.reduceLT, Int.reduceLE, Int.reduceAdd, Int.reduceSub, Int.reduceMul, Int.reduceNeg, Int.reduceToNat, Int.reduceEq, Int.reduceNe, Int.reduceTDiv, Int.reduceTMod, implies_true, putL, appN, appX, appC, Eng.Fi, reduceCtorEq, exists_eq_left', exists_eq_left, if_true, if_false, List.replicate, Nat.reduceAdd, Nat.reduceSub, Nat.reduceMul, Nat.reduceLeDiff, Nat.reduceLT, Nat.reduceEqDiff]
      · have h12' : (12 < (rs.length : Int)) = True := by simp only [eq_iff_iff, iff_true]; omega
        refine c10.fok (by simp only [free_Hs, subs, sub1, free_Se, free_Sps, free_Rq]) (Cor.run (addC_good g_Few (addC_good g_few (addC_good g_awake (noC_good _)))) (noHx_good _) hm ?_)
        simp +contextual -implicitDefEqProofs (maxSteps := 2000000) only [bg_eq, a10, nz0, x_awake, x_few, yf, h8, h12', List.length_map, not_true_eq_false, not_false_eq_true, ne_eq, ruB, rh_no, Int.reduceLT, Int.reduceLE, Int.reduceAdd, Int.reduceSub, Int.reduceMul, Int.reduceNeg, Int.reduceToNat, Int.reduceEq, Int.reduceNe, Int.reduceTDiv, Int.reduceTMod, implies_true, putL, appN, appX, appC, Eng.Fi, reduceCtorEq, exists_eq_left', exists_eq_left, if_true, if_false, List.replicate, Nat.reduceAdd, Nat.reduceSub, Nat.reduceMul, Nat.reduceLeDiff, Nat.reduceLT, Nat.reduceEqDiff]
    · rw [Bool.eq_false_iff.2 hf] at yf
      refine c10.fok (by simp only [free_Hs, subs, sub1, free_Se, free_Sps, free_Rq]) (Cor.run (addC_good g_Few (addC_good g_few (addC_good g_awake (noC_good _)))) (noHx_good _) hm ?_)
      simp +contextual -implicitDefEqProofs (maxSteps := 2000000) only [bg_eq, a10, nz0, x_awake, x_few, yf, h8, not_true_eq_false, not_false_eq_true, ne_eq, ruB, rh_no, Int.reduceLT, Int.reduceLE, Int.reduceAdd, Int.reduceSub, Int.reduceMul, Int.reduceNeg, Int.reduceToNat, Int.reduceEq, Int.reduceNe, Int.reduceTDiv, Int.reduceTMod, implies_true, putL, appN, appX, appC, Eng.Fi, reduceCtorEq, exists_eq_left', exists_eq_left, if_true, if_false, List.replicate, Nat.reduceAdd, Nat.reduceSub, Nat.reduceMul, Nat.reduceLeDiff, Nat.reduceLT, Nat.reduceEqDiff]
  · refine c10.fok (by simp only [free_Hs, subs, sub1, free_Se, free_Sps, free_Rq]) (Cor.run (addC_good g_Few (addC_good g_few (addC_good g_awake (noC_good _)))) (noHx_good _) hm ?_)
    simp +contextual -implicitDefEqProofs (maxSteps := 2000000) only [bg_eq, a10, nz0, x_awake, x_few, h8, not_true_eq_false, not_false_eq_true, ne_eq, ruB, rh_no, Int.reduceLT, Int.reduceLE, Int.reduceAdd, Int.reduceSub, Int.reduceMul, Int.reduceNeg, Int.reduceToNat, Int.reduceEq, Int.reduceNe, Int.reduceTDiv, Int.reduceTMod, implies_true, putL, appN, appX, appC, Eng.Fi, reduceCtorEq, exists_eq_left', exists_eq_left, if_true, if_false, List.replicate, Nat.reduceAdd, Nat.reduceSub, Nat.reduceMul, Nat.reduceLeDiff, Nat.reduceLT, Nat.reduceEqDiff]
theorem arReqs {n : Nat} {u : AV} (h : ArG P n 83 u) : ∃ l : List Rq, u = .vs (l.map eRq) := by
  have := h.one 5 (k := .sl true [.i, .i, .i]) (by kernel_rfl) (by kernel_rfl)
  simp only [ShV1] at this
  obtain ⟨l, rfl, hl, _⟩ := this
  obtain ⟨gs, e1, _⟩ := sl_enc (α := Rq) eRq (ag := true) (fun p hp => by
    simp only [ShV, ShV1] at hp
    obtain ⟨_, _, rfl, ⟨a, rfl, _⟩, _, _, rfl, ⟨b, rfl, _⟩, _, _, rfl, ⟨c, rfl, _⟩, rfl⟩ := hp
    exact ⟨⟨a, b, c⟩, rfl⟩) hl
  rw [e1]
  exact ⟨gs, rfl⟩
theorem law10 (n0 : Nat) (u0 : AV) (a0 : ArG P n0 42 u0) (n1 : Nat) (u1 : AV) (a1 : ArG P n1 22 u1) (n2 : Nat) (u2 : AV) (a2 : ArG P n2 83 u2) : FOk P 10 [u0, u1, u2] (.bool true) := by
  obtain ⟨h, rfl, _⟩ := arHead a0
  obtain ⟨l, rfl⟩ := arSteps a1
  obtain ⟨rs, rfl⟩ := arReqs a2
  exact k_ScanRequests h l rs
end Sc
