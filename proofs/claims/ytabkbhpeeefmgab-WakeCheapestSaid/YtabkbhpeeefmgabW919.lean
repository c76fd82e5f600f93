import Derived.Test.YtabkbhpeeefmgabEngS9
import Derived.Test.YtabkbhpeeefmgabW917
import Derived.Test.YtabkbhpeeefmgabW911
import Derived.Test.YtabkbhpeeefmgabW918
open Go Go.Proofs Eng
set_option maxRecDepth 100000
set_option linter.unusedSimpArgs false
set_option linter.unusedVariables false
def a5 : AC := .seq (.ops false [] [⟨some 4, .p (.mov), [.c (.bool false)], none⟩]) (.seq (.seq (.ops false [] [⟨some 19, .call 6, [], none⟩, ⟨some 20, .p (.notB), [.t 19], none⟩]) (.cond (.t 20) (.seq (.ops false [] [⟨some 4, .p (.mov), [.c (.bool false)], none⟩]) (.ret)) (.skip))) (.seq (.seq (.ops false [] [⟨some 21, .p (.mov), [.t 0], none⟩, ⟨some 22, .call 7, [.t 21], none⟩, ⟨some 23, .p (.notB), [.t 22], none⟩, ⟨some 24, .p (.mov), [.t 23], none⟩, ⟨some 25, .p (.mov), [.t 0], some (24, false)⟩, ⟨some 26, .call 21, [.t 25], some (24, false)⟩, ⟨some 27, .p (.binI .neq), [.t 26, .c (.int .i64 0)], some (24, false)⟩, ⟨some 28, .p (.pick), [.t 24, .c (.bool true), .t 27], none⟩]) (.cond (.t 28) (.seq (.ops false [] [⟨some 4, .p (.mov), [.c (.bool true)], none⟩]) (.ret)) (.skip))) (.seq (.ops false [] [⟨some 30, .p (.mov), [.t 0], none⟩, ⟨some 31, .call 9, [.t 30], none⟩, ⟨some 32, .call 22, [.t 31], none⟩, ⟨some 29, .p (.mov), [.t 32], none⟩, ⟨some 33, .p (.ext 0), [.t 29], none⟩, ⟨some 34, .p (.ext 1), [.t 29], none⟩, ⟨some 5, .alloc 25 3 [.agg [.nilslice, .nilslice, .nilslice]], [], none⟩, ⟨none, .store 3 true, [.t 5, .t 33], none⟩, ⟨some 6, .p (.mov), [.t 34], none⟩]) (.seq (.ops false [] [⟨some 36, .p (.mov), [.t 0], none⟩, ⟨some 37, .call 9, [.t 36], none⟩, ⟨some 38, .call 23, [.t 37], none⟩, ⟨some 35, .p (.mov), [.t 38], none⟩, ⟨some 39, .p (.ext 0), [.t 35], none⟩, ⟨some 40, .p (.ext 1), [.t 35], none⟩, ⟨some 41, .p (.ext 2), [.t 35], none⟩, ⟨some 7, .p (.mov), [.t 39], none⟩, ⟨some 8, .p (.mov), [.t 40], none⟩, ⟨some 9, .p (.mov), [.t 41], none⟩]) (.seq (.ops false [] [⟨some 43, .p (.mov), [.t 0], none⟩, ⟨some 44, .call 9, [.t 43], none⟩, ⟨some 45, .call 24, [.t 44], none⟩, ⟨some 42, .p (.mov), [.t 45], none⟩, ⟨some 46, .p (.ext 0), [.t 42], none⟩, ⟨some 47, .p (.ext 1), [.t 42], none⟩, ⟨some 10, .p (.mov), [.t 46], none⟩, ⟨some 11, .p (.mov), [.t 47], none⟩]) (.seq (.ops true [] [⟨some 49, .p (.mov), [.t 0], none⟩, ⟨some 50, .call 9, [.t 49], none⟩, ⟨some 51, .load 3 true, [.t 5], none⟩, ⟨some 52, .call 10, [.t 51], none⟩, ⟨some 53, .call 8, [.t 50, .t 52], none⟩, ⟨some 48, .p (.mov), [.t 53], none⟩, ⟨some 54, .p (.ext 0), [.t 48], none⟩, ⟨some 55, .p (.ext 1), [.t 48], none⟩, ⟨some 12, .p (.mov), [.t 54], none⟩, ⟨some 13, .p (.mov), [.t 55], none⟩]) (.seq (.seq (.ops false [] [⟨some 56, .p (.mov), [.t 6], none⟩, ⟨some 57, .p (.binI .neq), [.t 56, .c (.int .i64 0)], none⟩, ⟨some 58, .p (.mov), [.t 57], none⟩, ⟨some 59, .p (.mov), [.t 9], some (58, false)⟩, ⟨some 60, .p (.binI .neq), [.t 59, .c (.int .i64 0)], some (58, false)⟩, ⟨some 61, .p (.pick), [.t 58, .c (.bool true), .t 60], none⟩, ⟨some 62, .p (.mov), [.t 61], none⟩, ⟨some 63, .p (.mov), [.t 11], some (62, false)⟩, ⟨some 64, .p (.binI .neq), [.t 63, .c (.int .i64 0)], some (62, false)⟩, ⟨some 65, .p (.pick), [.t 62, .c (.bool true), .t 64], none⟩, ⟨some 66, .p (.mov), [.t 65], none⟩, ⟨some 67, .p (.mov), [.t 13], some (66, false)⟩, ⟨some 68, .p (.binI .neq), [.t 67, .c (.int .i64 0)], some (66, false)⟩, ⟨some 69, .p (.pick), [.t 66, .c (.bool true), .t 68], none⟩, ⟨some 70, .p (.mov), [.t 69], none⟩, ⟨some 71, .p (.mov), [.t 12], some (70, false)⟩, ⟨some 72, .p (.binI .neq), [.t 71, .c (.int .i64 0)], some (70, false)⟩, ⟨some 73, .p (.pick), [.t 70, .c (.bool true), .t 72], none⟩, ⟨some 74, .p (.mov), [.t 73], none⟩, ⟨some 75, .p (.faddr 0), [.t 5], some (74, false)⟩, ⟨some 76, .load 1 false, [.t 75], some (74, false)⟩, ⟨some 77, .p (.mov), [.t 7], some (74, false)⟩, ⟨some 78, .call 25, [.t 76, .t 77], some (74, false)⟩, ⟨some 79, .p (.notB), [.t 78], some (74, false)⟩, ⟨some 80, .p (.pick), [.t 74, .c (.bool true), .t 79], none⟩, ⟨some 81, .p (.mov), [.t 80], none⟩, ⟨some 82, .p (.mov), [.t 7], some (81, false)⟩, ⟨some 83, .p (.lenS), [.t 82], some (81, false)⟩, ⟨some 84, .p (.mov), [.t 0], some (81, false)⟩, ⟨some 85, .p (.lenS), [.t 84], some (81, false)⟩, ⟨some 86, .p (.binI .neq), [.t 83, .t 85], some (81, false)⟩, ⟨some 87, .p (.pick), [.t 81, .c (.bool true), .t 86], none⟩]) (.cond (.t 87) (.seq (.ops false [] [⟨some 4, .p (.mov), [.c (.bool false)], none⟩]) (.ret)) (.skip))) (.seq (.ops false [] [⟨some 88, .p (.mov), [.t 0], none⟩, ⟨some 89, .p (.lenS), [.t 88], none⟩, ⟨some 90, .call 26, [.t 89], none⟩, ⟨some 14, .p (.mov), [.t 90], none⟩]) (.seq (.ops false [] [⟨some 91, .p (.mov), [.t 14], none⟩, ⟨some 92, .p (.mov), [.t 1], none⟩, ⟨some 93, .p (.mov), [.t 14], none⟩, ⟨some 94, .p (.lenS), [.t 93], none⟩, ⟨some 95, .call 27, [.t 92, .t 94], none⟩, ⟨some 96, .p (.iaddrS 1), [.t 91, .t 95], none⟩, ⟨some 97, .load 1 false, [.t 96], none⟩, ⟨some 15, .p (.mov), [.t 97], none⟩]) (.seq (.seq (.ops false [] [⟨some 98, .p (.mov), [.t 0], none⟩, ⟨some 99, .p (.mov), [.t 7], none⟩, ⟨some 100, .call 28, [.t 98, .t 99], none⟩, ⟨some 101, .p (.mov), [.t 8], none⟩, ⟨some 102, .p (.binI .neq), [.t 100, .t 101], none⟩, ⟨some 103, .p (.mov), [.t 102], none⟩, ⟨some 104, .p (.mov), [.t 0], some (103, false)⟩, ⟨some 105, .p (.mov), [.t 15], some (103, false)⟩, ⟨some 106, .call 28, [.t 104, .t 105], some (103, false)⟩, ⟨some 107, .p (.mov), [.t 8], some (103, false)⟩, ⟨some 108, .p (.binI .lss), [.t 106, .t 107], some (103, false)⟩, ⟨some 109, .p (.pick), [.t 103, .c (.bool true), .t 108], none⟩]) (.cond (.t 109) (.seq (.ops false [] [⟨some 4, .p (.mov), [.c (.bool false)], none⟩]) (.ret)) (.skip))) (.seq (.seq (.ops false [] [⟨some 16, .p (.mov), [.c (.int .i64 0)], none⟩]) (.block 0 (.loop (.seq (.seq (.ops false [] [⟨some 110, .p (.mov), [.t 16], none⟩, ⟨some 111, .p (.mov), [.t 0], none⟩, ⟨some 112, .p (.lenS), [.t 111], none⟩, ⟨some 113, .p (.binI .lss), [.t 110, .t 112], none⟩]) (.cond (.t 113) (.skip) (.exit 0))) (.seq (.block 1 (.seq (.ops false [] [⟨some 17, .p (.mov), [.c (.bool true)], none⟩]) (.seq (.seq (.ops false [] [⟨some 18, .p (.mov), [.c (.int .i64 0)], none⟩]) (.block 2 (.loop (.seq (.seq (.ops false [] [⟨some 116, .p (.mov), [.t 18], none⟩, ⟨some 117, .p (.mov), [.t 14], none⟩, ⟨some 118, .p (.lenS), [.t 117], none⟩, ⟨some 119, .p (.binI .lss), [.t 116, .t 118], none⟩]) (.cond (.t 119) (.skip) (.exit 2))) (.seq (.block 3 (.ops true [] [⟨some 122, .p (.mov), [.t 17], none⟩, ⟨some 123, .p (.mov), [.t 122], none⟩, ⟨some 124, .p (.mov), [.t 0], some (123, true)⟩, ⟨some 125, .p (.mov), [.t 14], some (123, true)⟩, ⟨some 126, .p (.mov), [.t 18], some (123, true)⟩, ⟨some 127, .p (.iaddrS 1), [.t 125, .t 126], some (123, true)⟩, ⟨some 128, .load 1 false, [.t 127], some (123, true)⟩, ⟨some 129, .call 28, [.t 124, .t 128], some (123, true)⟩, ⟨some 130, .p (.mov), [.t 8], some (123, true)⟩, ⟨some 131, .p (.binI .gtr), [.t 129, .t 130], some (123, true)⟩, ⟨some 132, .p (.mov), [.t 131], some (123, true)⟩, ⟨some 133, .p (.mov), [.t 14], some (132, false)⟩, ⟨some 134, .p (.mov), [.t 18], some (132, false)⟩, ⟨some 135, .p (.iaddrS 1), [.t 133, .t 134], some (132, false)⟩, ⟨some 136, .load 1 false, [.t 135], some (132, false)⟩, ⟨some 137, .p (.mov), [.t 16], some (132, false)⟩, ⟨some 138, .p (.iaddrS 1), [.t 136, .t 137], some (132, false)⟩, ⟨some 139, .load 1 false, [.t 138], some (132, false)⟩, ⟨some 140, .p (.mov), [.t 7], some (132, false)⟩, ⟨some 141, .p (.mov), [.t 16], some (132, false)⟩, ⟨some 142, .p (.iaddrS 1), [.t 140, .t 141], some (132, false)⟩, ⟨some 143, .load 1 false, [.t 142], some (132, false)⟩, ⟨some 144, .p (.binI .eql), [.t 139, .t 143], some (132, false)⟩, ⟨some 145, .p (.pick), [.t 132, .c (.bool true), .t 144], some (123, true)⟩, ⟨some 146, .p (.pick), [.t 123, .t 145, .c (.bool false)], none⟩, ⟨some 17, .p (.mov), [.t 146], none⟩])) (.ops false [] [⟨some 120, .p (.mov), [.t 18], none⟩, ⟨some 121, .p (.binI .add), [.t 120, .c (.int .i64 1)], none⟩, ⟨some 18, .p (.mov), [.t 121], none⟩])))))) (.seq (.ops false [] [⟨some 147, .p (.mov), [.t 10], none⟩, ⟨some 148, .p (.mov), [.t 16], none⟩, ⟨some 149, .call 29, [.t 147, .t 148], none⟩, ⟨some 150, .p (.mov), [.t 17], none⟩, ⟨some 151, .p (.eqB true), [.t 149, .t 150], none⟩]) (.cond (.t 151) (.seq (.ops false [] [⟨some 4, .p (.mov), [.c (.bool false)], none⟩]) (.ret)) (.skip)))))) (.ops false [] [⟨some 114, .p (.mov), [.t 16], none⟩, ⟨some 115, .p (.binI .add), [.t 114, .c (.int .i64 1)], none⟩, ⟨some 16, .p (.mov), [.t 115], none⟩])))))) (.seq (.ops false [] [⟨some 4, .p (.mov), [.c (.bool true)], none⟩]) (.ret)))))))))))))
theorem c5 : FnC Try.prog 5 152 a5 [.tmp 4] := ⟨Try.call5, _, _, Try.func5, rfl, by kernel_rfl, by kernel_rfl, rfl⟩
namespace Wa
theorem arLists0 {n : Nat} {u : AV} (h : ArG P n 22 u) : ∃ m : List L, u = .vs (m.map eL) ∧ m.length ≤ maxLen ∧ ∀ r ∈ m, r.length ≤ maxLen := by
  have hh := h.one 6 (k := .sl false [.sl false [.i]]) (by kernel_rfl) (by kernel_rfl)
  simp only [ShV1] at hh
  obtain ⟨l, rfl, hl, hlen⟩ := hh
  obtain ⟨gs, e1, e2⟩ := sl_enc (α := {r : L // r.length ≤ maxLen}) (fun r => eL r.1) (ag := false) (fun p hp => by
    simp only [ShV, ShV1] at hp
    obtain ⟨_, _, rfl, ⟨l', rfl, hl', hlen'⟩, rfl⟩ := hp
    obtain ⟨gs, e1, e2⟩ := sl_enc (α := Int) eI (ag := false) (fun p hp => by
      obtain ⟨_, _, rfl, ⟨a, rfl, _⟩, rfl⟩ := hp
      exact ⟨a, rfl⟩) hl'
    exact ⟨⟨gs, by rw [e2]; exact hlen'⟩, by show AV.vs _ = AV.vs _; rw [e1]⟩) hl
  rw [e1]
  refine ⟨gs.map Subtype.val, by rw [List.map_map]; rfl, by rw [List.length_map, e2]; exact hlen, fun r hr => ?_⟩
  obtain ⟨x, _, rfl⟩ := List.mem_map.1 hr
  exact x.2
end Wa
open Go Go.Proofs Eng
set_option maxRecDepth 100000
set_option linter.unusedSimpArgs false
set_option linter.unusedVariables false
namespace Wa
def S_cp1 (m : List L) (k : Int) (p : Wp) : AState := ⟨[.vs (m.map eL), I k, .any, .any, .any, .vp [eWp p] 0 0, I 0, .any, .any, .any, .any, .any, .any, .any, .any, .any, .any, .any, .any, .any, .any, .any, .any, .any, .any, .any, .any, .any, .any, .any, .any, .any, .any, .any, .any, .any, .any, .any, .any, .any, .any, .any, .any, .any, .any, .any, .any, .any, .any, .any, .any, .any, .any, .any, .any, .any, .any, .any, .any, .any, .any, .any, .any, .any, .any, .any, .any, .any, .any, .any, .any, .any, .any, .any, .any, .any, .any, .any, .any, .any, .any, .any, .any, .any, .any, .any, .any, .any, .any, .any, .any, .any, .any, .any, .any, .any, .any, .any, .any, .any, .any, .any, .any, .any, .any, .any, .any, .any, .any, .any, .any, .any, .any, .any, .any, .any, .any, .any, .any, .any, .any, .any, .any, .any, .any, .any, .any, .any, .any, .any, .any, .any, .any, .any, .any, .any, .any, .any, .any, .any, .any, .any, .any, .any, .any, .any, .any, .any, .any, .any, .any, .any], [], 0⟩
def S_cp2 (m A : List L) (a ce : L) (n : Int) (r : Nat) : AState := ⟨[.vs (m.map eL), .any, .any, .any, .any, .any, .any, .vs (a.map eI), I n, .any, .vs (ce.map eI), .any, .any, .any, .vs (A.map eL), .any, I r, .any, .any, .any, .any, .any, .any, .any, .any, .any, .any, .any, .any, .any, .any, .any, .any, .any, .any, .any, .any, .any, .any, .any, .any, .any, .any, .any, .any, .any, .any, .any, .any, .any, .any, .any, .any, .any, .any, .any, .any, .any, .any, .any, .any, .any, .any, .any, .any, .any, .any, .any, .any, .any, .any, .any, .any, .any, .any, .any, .any, .any, .any, .any, .any, .any, .any, .any, .any, .any, .any, .any, .any, .any, .any, .any, .any, .any, .any, .any, .any, .any, .any, .any, .any, .any, .any, .any, .any, .any, .any, .any, .any, .any, .any, .any, .any, .any, .any, .any, .any, .any, .any, .any, .any, .any, .any, .any, .any, .any, .any, .any, .any, .any, .any, .any, .any, .any, .any, .any, .any, .any, .any, .any, .any, .any, .any, .any, .any, .any, .any, .any, .any, .any, .any, .any], [], 0⟩
def S_cp3 (m A : List L) (a ce : L) (n : Int) (r : Nat) (q : Nat × Bool) : AState := ⟨[.vs (m.map eL), .any, .any, .any, .any, .any, .any, .vs (a.map eI), I n, .any, .vs (ce.map eI), .any, .any, .any, .vs (A.map eL), .any, I r, .bool q.2, I q.1, .any, .any, .any, .any, .any, .any, .any, .any, .any, .any, .any, .any, .any, .any, .any, .any, .any, .any, .any, .any, .any, .any, .any, .any, .any, .any, .any, .any, .any, .any, .any, .any, .any, .any, .any, .any, .any, .any, .any, .any, .any, .any, .any, .any, .any, .any, .any, .any, .any, .any, .any, .any, .any, .any, .any, .any, .any, .any, .any, .any, .any, .any, .any, .any, .any, .any, .any, .any, .any, .any, .any, .any, .any, .any, .any, .any, .any, .any, .any, .any, .any, .any, .any, .any, .any, .any, .any, .any, .any, .any, .any, .any, .any, .any, .any, .any, .any, .any, .any, .any, .any, .any, .any, .any, .any, .any, .any, .any, .any, .any, .any, .any, .any, .any, .any, .any, .any, .any, .any, .any, .any, .any, .any, .any, .any, .any, .any, .any, .any, .any, .any, .any, .any], [], 0⟩
set_option maxHeartbeats 2000000 in
theorem k_WakeCheapest (m : List L) (k : Int) : FOk P 5 [.vs (m.map eL), I k] (.bool true) := by
  have y1 := x_small6 m
  by_cases hs : smP m
  · rw [decide_eq_true hs] at y1
    obtain ⟨s1, s2, s3⟩ := hs
    have y2 := x_rMatrixErr m (by simp only [eq_iff_iff, iff_true]; exact ⟨by omega, fun r hr => by have := s2 r hr; omega⟩)
    by_cases h0 : (cmV m).2 = 0
    · have hma := cmV_z h0
      have hn := hma.n
      rw [h0] at y2
      have y3 := x_CopyMatrix m (by simp only [eq_iff_iff, iff_true]; exact ⟨by omega, fun r hr => by have := s2 r hr; omega⟩)
      have y4 := x_PotentialsOf m (by simp only [h0])
      have y5 := x_CheapestOf m (by simp only [eq_iff_iff, iff_true]; exact ⟨by omega, fun r hr => by have := s2 r hr; omega⟩)
      rw [coV, if_pos h0] at y5
      have y6 := x_CertainIn m (by simp only [eq_iff_iff, iff_true]; exact ⟨by omega, fun r hr => by have := s2 r hr; omega⟩)
      rw [ceV, if_pos h0] at y6
      have y7 := x_CheckAssignment m (poV m) (by simp only [eq_iff_iff, iff_true]; exact ⟨by omega, fun r hr => by have := s2 r hr; omega⟩)
      rw [po_ok h0] at y7
      obtain ⟨ha, hcst⟩ := asV_asg m
      have hI := iv_col ha
      have y8 := x_CopyProof (poV m) (by
        simp only [eq_iff_iff, iff_true]
        refine ⟨?_, ?_, ?_⟩
        · show (asV m).length ≤ 1000
          rw [ha.n]; omega
        · show (rowV m (asV m) (colV m (asV m)) m.length).length ≤ 1000
          rw [rowV_len]; omega
        · show (colV m (asV m)).length ≤ 1000
          rw [hI.len]; omega)
      have hce : (ceL m).length ≤ m.length := ceG_len _ _
      have hiff := fun r (hr : r < m.length) => ceL_iff (m := m) hr
      have hle := chV_le m
      have hpa : (poV m).a = asV m := rfl
      have hAl : (permG m.length m.length []).length ≤ 46656 := perm_le hn.2
      have hAm : ∀ p ∈ permG m.length m.length [], p.length = m.length ∧ ∀ k ∈ p, 0 ≤ k ∧ k < (m.length : Int) := fun p hp => by
        have := perm_mem (N := m.length) m.length [] (by simp) (by simp) p hp
        exact this
      have hAn := perm_ne m.length
      have yA := x_Assignments (m.length : Int) (by simp only [eq_iff_iff, iff_true]; omega)
      rw [Int.toNat_natCast] at yA
      have yH := fun r => x_Has (ceL m) r (by simp only [eq_iff_iff, iff_true]; omega)
      have yI := x_Ints (asV m) (asV m) (by simp only [eq_iff_iff, iff_true]; rw [ha.n]; omega)
      rw [show decide (asV m = asV m) = true from decide_eq_true rfl] at yI
      have hal := ha.n
      have yc0 := x_rCost m (asV m) (by simp only [eq_iff_iff, iff_true]; exact ⟨h0, ha.n, ha.r⟩)
      rw [hcst] at yc0
      have hasd : (chV m).1.headD [] = asV m := rfl
      rw [hasd] at y5
      generalize permG m.length m.length [] = A at *
      have yC : ∀ p ∈ A, cf_rCost [.vs (m.map eL), .vs (p.map eI)] = some (I (cst m p)) := fun p hp => x_rCost m p (by simp only [eq_iff_iff, iff_true]; exact ⟨h0, hAm p hp⟩)
      generalize ceL m = ce at *
      generalize (chV m).2 = n at *
      have hA0 : 0 < A.length := by
        cases A with
        | nil => exact absurd rfl hAn
        | cons a l => simp
      have yM := x_Mod k (A.length : Int) (by simp only [eq_iff_iff, iff_true]; omega)
      have hmod : 0 ≤ k % (A.length : Int) ∧ k % (A.length : Int) < (A.length : Int) := ⟨Int.emod_nonneg _ (by omega), Int.emod_lt_of_pos _ (by omega)⟩
      obtain ⟨j, hj⟩ : ∃ j : Nat, k % (A.length : Int) = (j : Int) := ⟨(k % (A.length : Int)).toNat, by omega⟩
      rw [hj] at yM hmod
      have hjl : j < A.length := by omega
      have g1 : (A.map eL)[j]? = some (eL A[j]) := get_e eL A hjl
      have hAj := List.getElem_mem hjl
      have y10 := yC _ hAj
      have hlj := hle _ hAj
      generalize A[j] = o at *
      have hlt0 : (cst m o < n) = False := eq_false (by omega)
      refine c5.fok (y := YH P noHx) (by simp only [subs, sub1, free_L]) ?_
      rw [bg_eq]
      refine Cor.seq (Cor.run (addC_good g_awake (noC_good _)) (noHx_good _) hm ?_)
      simp +contextual -implicitDefEqProofs (maxSteps := 2000000) only [eThen_normal, ruB, rh_no, Int.reduceLT, Int.reduceLE, Int.reduceAdd, Int.reduceSub, Int.reduceMul, Int.reduceNeg, Int.reduceToNat, Int.reduceEq, Int.reduceNe, Int.reduceTDiv, Int.reduceTMod, implies_true, putL, appN, appX, appC, Eng.Fi, reduceCtorEq, exists_eq_left', exists_eq_left, if_true, if_false, List.replicate, Nat.reduceAdd, Nat.reduceSub, Nat.reduceMul, Nat.reduceLeDiff, Nat.reduceLT, Nat.reduceEqDiff]
      refine Cor.seq (Cor.run (addC_good g_awake (noC_good _)) (noHx_good _) hm ?_)
      simp +contextual -implicitDefEqProofs (maxSteps := 2000000) only [x_awake, eThen_normal, ruB, rh_no, Int.reduceLT, Int.reduceLE, Int.reduceAdd, Int.reduceSub, Int.reduceMul, Int.reduceNeg, Int.reduceToNat, Int.reduceEq, Int.reduceNe, Int.reduceTDiv, Int.reduceTMod, implies_true, putL, appN, appX, appC, Eng.Fi, reduceCtorEq, exists_eq_left', exists_eq_left, if_true, if_false, List.replicate, Nat.reduceAdd, Nat.reduceSub, Nat.reduceMul, Nat.reduceLeDiff, Nat.reduceLT, Nat.reduceEqDiff]
      refine Cor.seq (Cor.run (addC_good g_rMatrixErr (addC_good g_small6 (noC_good _))) (noHx_good _) hm ?_)
      simp +contextual -implicitDefEqProofs (maxSteps := 2000000) only [y1, y2, eThen_normal, not_true_eq_false, ruB, rh_no, Int.reduceLT, Int.reduceLE, Int.reduceAdd, Int.reduceSub, Int.reduceMul, Int.reduceNeg, Int.reduceToNat, Int.reduceEq, Int.reduceNe, Int.reduceTDiv, Int.reduceTMod, implies_true, putL, appN, appX, appC, Eng.Fi, reduceCtorEq, exists_eq_left', exists_eq_left, if_true, if_false, List.replicate, Nat.reduceAdd, Nat.reduceSub, Nat.reduceMul, Nat.reduceLeDiff, Nat.reduceLT, Nat.reduceEqDiff]
      refine Cor.seq (Cor.run (addC_good g_PotentialsOf (addC_good g_CopyMatrix (noC_good _))) (noHx_good _) hm ?_)
      simp +contextual -implicitDefEqProofs (maxSteps := 2000000) only [y3, y4, eThen_normal, ruB, rh_no, Int.reduceLT, Int.reduceLE, Int.reduceAdd, Int.reduceSub, Int.reduceMul, Int.reduceNeg, Int.reduceToNat, Int.reduceEq, Int.reduceNe, Int.reduceTDiv, Int.reduceTMod, implies_true, putL, appN, appX, appC, Eng.Fi, reduceCtorEq, exists_eq_left', exists_eq_left, if_true, if_false, List.replicate, Nat.reduceAdd, Nat.reduceSub, Nat.reduceMul, Nat.reduceLeDiff, Nat.reduceLT, Nat.reduceEqDiff]
      generalize poV m = po at *
      refine Cor.wk (s2 := S_cp1 m k po) (Wkn.to ⟨0, [], [0], 0, [0, 1, 5, 6]⟩ rfl rfl (by simp [Wk.st, keepT, memN, Wk.fate, Wk.fate0, assoc, getE, Wk.hp, ABlk.sub, sub1, subs, free_I, free_L, S_cp1])) ?_
      refine Cor.seq (Cor.run (addC_good g_CheapestOf (addC_good g_CopyMatrix (noC_good _))) (noHx_good _) hm ?_)
      simp +contextual -implicitDefEqProofs (maxSteps := 2000000) only [S_cp1, y3, y5, eThen_normal, ruB, rh_no, Int.reduceLT, Int.reduceLE, Int.reduceAdd, Int.reduceSub, Int.reduceMul, Int.reduceNeg, Int.reduceToNat, Int.reduceEq, Int.reduceNe, Int.reduceTDiv, Int.reduceTMod, implies_true, putL, appN, appX, appC, Eng.Fi, reduceCtorEq, exists_eq_left', exists_eq_left, if_true, if_false, List.replicate, Nat.reduceAdd, Nat.reduceSub, Nat.reduceMul, Nat.reduceLeDiff, Nat.reduceLT, Nat.reduceEqDiff]
      refine Cor.seq (Cor.run (addC_good g_CertainIn (addC_good g_CopyMatrix (noC_good _))) (noHx_good _) hm ?_)
      simp +contextual -implicitDefEqProofs (maxSteps := 2000000) only [y3, y6, eThen_normal, ruB, rh_no, Int.reduceLT, Int.reduceLE, Int.reduceAdd, Int.reduceSub, Int.reduceMul, Int.reduceNeg, Int.reduceToNat, Int.reduceEq, Int.reduceNe, Int.reduceTDiv, Int.reduceTMod, implies_true, putL, appN, appX, appC, Eng.Fi, reduceCtorEq, exists_eq_left', exists_eq_left, if_true, if_false, List.replicate, Nat.reduceAdd, Nat.reduceSub, Nat.reduceMul, Nat.reduceLeDiff, Nat.reduceLT, Nat.reduceEqDiff]
      refine Cor.seq (Cor.run (addC_good g_CheckAssignment (addC_good g_CopyProof (addC_good g_CopyMatrix (noC_good _)))) (noHx_good _) hm ?_)
      simp +contextual -implicitDefEqProofs (maxSteps := 2000000) only [y3, y7, y8, eThen_normal, ruB, rh_no, Int.reduceLT, Int.reduceLE, Int.reduceAdd, Int.reduceSub, Int.reduceMul, Int.reduceNeg, Int.reduceToNat, Int.reduceEq, Int.reduceNe, Int.reduceTDiv, Int.reduceTMod, implies_true, putL, appN, appX, appC, Eng.Fi, reduceCtorEq, exists_eq_left', exists_eq_left, if_true, if_false, List.replicate, Nat.reduceAdd, Nat.reduceSub, Nat.reduceMul, Nat.reduceLeDiff, Nat.reduceLT, Nat.reduceEqDiff]
      generalize asV m = a at *
      refine Cor.seq (Cor.run (addC_good g_Ints (noC_good _)) (noHx_good _) hm ?_)
      simp +contextual -implicitDefEqProofs (maxSteps := 2000000) only [yI, hpa, hal, List.length_map, eThen_normal, not_true_eq_false, ruB, rh_no, Int.reduceLT, Int.reduceLE, Int.reduceAdd, Int.reduceSub, Int.reduceMul, Int.reduceNeg, Int.reduceToNat, Int.reduceEq, Int.reduceNe, Int.reduceTDiv, Int.reduceTMod, implies_true, putL, appN, appX, appC, Eng.Fi, reduceCtorEq, exists_eq_left', exists_eq_left, if_true, if_false, List.replicate, Nat.reduceAdd, Nat.reduceSub, Nat.reduceMul, Nat.reduceLeDiff, Nat.reduceLT, Nat.reduceEqDiff]
      refine Cor.seq (Cor.run (addC_good g_Assignments (noC_good _)) (noHx_good _) hm ?_)
      simp +contextual -implicitDefEqProofs (maxSteps := 2000000) only [yA, List.length_map, eThen_normal, ruB, rh_no, Int.reduceLT, Int.reduceLE, Int.reduceAdd, Int.reduceSub, Int.reduceMul, Int.reduceNeg, Int.reduceToNat, Int.reduceEq, Int.reduceNe, Int.reduceTDiv, Int.reduceTMod, implies_true, putL, appN, appX, appC, Eng.Fi, reduceCtorEq, exists_eq_left', exists_eq_left, if_true, if_false, List.replicate, Nat.reduceAdd, Nat.reduceSub, Nat.reduceMul, Nat.reduceLeDiff, Nat.reduceLT, Nat.reduceEqDiff]
      refine Cor.seq (Cor.run (addC_good g_Mod (noC_good _)) (noHx_good _) hm ?_)
      simp +contextual -implicitDefEqProofs (maxSteps := 2000000) only [yM, g1, List.length_map, eThen_normal, ruB, rh_no, Int.reduceLT, Int.reduceLE, Int.reduceAdd, Int.reduceSub, Int.reduceMul, Int.reduceNeg, Int.reduceToNat, Int.reduceEq, Int.reduceNe, Int.reduceTDiv, Int.reduceTMod, implies_true, putL, appN, appX, appC, Eng.Fi, reduceCtorEq, exists_eq_left', exists_eq_left, if_true, if_false, List.replicate, Nat.reduceAdd, Nat.reduceSub, Nat.reduceMul, Nat.reduceLeDiff, Nat.reduceLT, Nat.reduceEqDiff]
      refine Cor.seq (Cor.run (addC_good g_rCost (noC_good _)) (noHx_good _) hm ?_)
      simp +contextual -implicitDefEqProofs (maxSteps := 2000000) only [yc0, y10, hlt0, eThen_normal, not_true_eq_false, ruB, rh_no, Int.reduceLT, Int.reduceLE, Int.reduceAdd, Int.reduceSub, Int.reduceMul, Int.reduceNeg, Int.reduceToNat, Int.reduceEq, Int.reduceNe, Int.reduceTDiv, Int.reduceTMod, implies_true, putL, appN, appX, appC, Eng.Fi, reduceCtorEq, exists_eq_left', exists_eq_left, if_true, if_false, List.replicate, Nat.reduceAdd, Nat.reduceSub, Nat.reduceMul, Nat.reduceLeDiff, Nat.reduceLT, Nat.reduceEqDiff]
      refine Cor.run (addC_good g_Has (addC_good g_rCost (noC_good _))) (noHx_good _) hm ?_
      simp +contextual -implicitDefEqProofs (maxSteps := 2000000) only [Int.natCast_zero, ruB, rh_no, Int.reduceLT, Int.reduceLE, Int.reduceAdd, Int.reduceSub, Int.reduceMul, Int.reduceNeg, Int.reduceToNat, Int.reduceEq, Int.reduceNe, Int.reduceTDiv, Int.reduceTMod, implies_true, putL, appN, appX, appC, Eng.Fi, reduceCtorEq, exists_eq_left', exists_eq_left, if_true, if_false, List.replicate, Nat.reduceAdd, Nat.reduceSub, Nat.reduceMul, Nat.reduceLeDiff, Nat.reduceLT, Nat.reduceEqDiff]
      refine Cor.lp (addC_good g_Has (addC_good g_rCost (noC_good _))) (noHx_good _) hm (S_cp2 m A a ce n) (fun r => r ≤ m.length) (fun r => m.length - r) (a := 0) (Nat.zero_le _) (Wkn.to ⟨0, [], [], 0, [0, 7, 8, 10, 14, 16]⟩ rfl rfl (by simp [Wk.st, keepT, memN, Wk.fate, Wk.fate0, assoc, getE, Wk.hp, ABlk.sub, sub1, subs, free_I, free_L, S_cp2])) ?_
      intro f r hr go
      rcases Nat.lt_or_ge r m.length with hlt | hge
      · have e1 : ((r : Int) < (m.length : Int)) = True := eq_true (by omega)
        have e3 : IntKind.wrap .i64 ((r : Int) + 1) = ((r + 1 : Nat) : Int) := suc_w (by omega)
        have hir := hiff r hlt
        have yh := yH (r : Int)
        have e2 : (a.map eI)[r]? = some (eI (gk r a)) := gk_get (by omega)
        simp +contextual -implicitDefEqProofs (maxSteps := 2000000) only [S_cp2, e1, List.length_map, Int.natCast_zero, ruB, rh_no, Int.reduceLT, Int.reduceLE, Int.reduceAdd, Int.reduceSub, Int.reduceMul, Int.reduceNeg, Int.reduceToNat, Int.reduceEq, Int.reduceNe, Int.reduceTDiv, Int.reduceTMod, implies_true, putL, appN, appX, appC, Eng.Fi, reduceCtorEq, exists_eq_left', exists_eq_left, if_true, if_false, List.replicate, Nat.reduceAdd, Nat.reduceSub, Nat.reduceMul, Nat.reduceLeDiff, Nat.reduceLT, Nat.reduceEqDiff]
        refine Cor.lp (addC_good g_Has (addC_good g_rCost (noC_good _))) (noHx_good _) hm (S_cp3 m A a ce n r) (fun q => q.1 ≤ A.length ∧ (q.2 = true ↔ ¬ ceQ m n a r (A.take q.1))) (fun q => A.length - q.1) (a := (0, true)) ⟨Nat.zero_le _, by simp [ceQ]⟩ (Wkn.keep [0, 7, 8, 10, 14, 16, 17, 18] rfl) ?_
        rintro f2 ⟨t, fl⟩ ⟨ht, hfl⟩ go2
        simp only at ht hfl
        rcases Nat.lt_or_ge t A.length with hlt2 | hge2
        · have u1 : ((t : Int) < (A.length : Int)) = True := eq_true (by omega)
          have u3 : IntKind.wrap .i64 ((t : Int) + 1) = ((t + 1 : Nat) : Int) := suc_w (by omega)
          have u2 : (A.map eL)[t]? = some (eL A[t]) := get_e eL A hlt2
          have hAt := List.getElem_mem hlt2
          have yt := yC _ hAt
          have hml := (hAm _ hAt).1
          have hqs := ceQ_s (m := m) (n := n) (a := a) (r := r) hlt2
          generalize A[t] = p at *
          have u4 : (p.map eI)[r]? = some (eI (gk r p)) := gk_get (by omega)
          generalize cst m p = cp at *
          generalize gk r p = x1 at *
          generalize gk r a = x2 at *
          cases fl with
          | true =>
            have hnq := hfl.1 rfl
            by_cases c1 : n < cp
            · have c1' := eq_true c1
              simp +contextual -implicitDefEqProofs (maxSteps := 2000000) only [S_cp3, u1, u2, u3, yt, c1', List.length_map, ruB, rh_no, Int.reduceLT, Int.reduceLE, Int.reduceAdd, Int.reduceSub, Int.reduceMul, Int.reduceNeg, Int.reduceToNat, Int.reduceEq, Int.reduceNe, Int.reduceTDiv, Int.reduceTMod, implies_true, putL, appN, appX, appC, Eng.Fi, reduceCtorEq, exists_eq_left', exists_eq_left, if_true, if_false, List.replicate, Nat.reduceAdd, Nat.reduceSub, Nat.reduceMul, Nat.reduceLeDiff, Nat.reduceLT, Nat.reduceEqDiff]
              exact go2 _ (t + 1, true) ⟨hlt2, ⟨fun _ q => (hqs.1 q).elim hnq (fun q => by omega), fun _ => rfl⟩⟩ (by simp only; omega) (Wkn.keep [0, 7, 8, 10, 14, 16, 17, 18] rfl)
            · have c1' := eq_false c1
              by_cases c2 : x1 = x2
              · have c2' := eq_true c2
                simp +contextual -implicitDefEqProofs (maxSteps := 2000000) only [S_cp3, u1, u2, u3, u4, e2, yt, c1', c2', List.length_map, ruB, rh_no, Int.reduceLT, Int.reduceLE, Int.reduceAdd, Int.reduceSub, Int.reduceMul, Int.reduceNeg, Int.reduceToNat, Int.reduceEq, Int.reduceNe, Int.reduceTDiv, Int.reduceTMod, implies_true, putL, appN, appX, appC, Eng.Fi, reduceCtorEq, exists_eq_left', exists_eq_left, if_true, if_false, List.replicate, Nat.reduceAdd, Nat.reduceSub, Nat.reduceMul, Nat.reduceLeDiff, Nat.reduceLT, Nat.reduceEqDiff]
                exact go2 _ (t + 1, true) ⟨hlt2, ⟨fun _ q => (hqs.1 q).elim hnq (fun q => q.2 c2), fun _ => rfl⟩⟩ (by simp only; omega) (Wkn.keep [0, 7, 8, 10, 14, 16, 17, 18] rfl)
              · have c2' := eq_false c2
                simp +contextual -implicitDefEqProofs (maxSteps := 2000000) only [S_cp3, u1, u2, u3, u4, e2, yt, c1', c2', List.length_map, ruB, rh_no, Int.reduceLT, Int.reduceLE, Int.reduceAdd, Int.reduceSub, Int.reduceMul, Int.reduceNeg, Int.reduceToNat, Int.reduceEq, Int.reduceNe, Int.reduceTDiv, Int.reduceTMod, implies_true, putL, appN, appX, appC, Eng.Fi, reduceCtorEq, exists_eq_left', exists_eq_left, if_true, if_false, List.replicate, Nat.reduceAdd, Nat.reduceSub, Nat.reduceMul, Nat.reduceLeDiff, Nat.reduceLT, Nat.reduceEqDiff]
                exact go2 _ (t + 1, false) ⟨hlt2, ⟨fun q => by simp at q, fun q => absurd (hqs.2 (.inr ⟨by omega, c2⟩)) q⟩⟩ (by simp only; omega) (Wkn.keep [0, 7, 8, 10, 14, 16, 17, 18] rfl)
          | false =>
            have hq : ceQ m n a r (A.take t) := Classical.byContradiction fun q => by have := hfl.2 q; simp at this
            simp +contextual -implicitDefEqProofs (maxSteps := 2000000) only [S_cp3, u1, u2, u3, List.length_map, ruB, rh_no, Int.reduceLT, Int.reduceLE, Int.reduceAdd, Int.reduceSub, Int.reduceMul, Int.reduceNeg, Int.reduceToNat, Int.reduceEq, Int.reduceNe, Int.reduceTDiv, Int.reduceTMod, implies_true, putL, appN, appX, appC, Eng.Fi, reduceCtorEq, exists_eq_left', exists_eq_left, if_true, if_false, List.replicate, Nat.reduceAdd, Nat.reduceSub, Nat.reduceMul, Nat.reduceLeDiff, Nat.reduceLT, Nat.reduceEqDiff]
            exact go2 _ (t + 1, false) ⟨hlt2, ⟨fun q => by simp at q, fun q => absurd (hqs.2 (.inl hq)) q⟩⟩ (by simp only; omega) (Wkn.keep [0, 7, 8, 10, 14, 16, 17, 18] rfl)
        · have u1 : ((t : Int) < (A.length : Int)) = False := eq_false (by omega)
          rw [List.take_of_length_le hge2, ← hir] at hfl
          have hdec : decide ((r : Int) ∈ ce) = fl := by
            cases fl with
            | true => exact decide_eq_true (hfl.1 rfl)
            | false => exact decide_eq_false fun q => by have := hfl.2 q; simp at this
          rw [hdec] at yh
          cases fl <;> (
            simp +contextual -implicitDefEqProofs (maxSteps := 2000000) only [S_cp3, u1, yh, e3, List.length_map, ruB, rh_no, Int.reduceLT, Int.reduceLE, Int.reduceAdd, Int.reduceSub, Int.reduceMul, Int.reduceNeg, Int.reduceToNat, Int.reduceEq, Int.reduceNe, Int.reduceTDiv, Int.reduceTMod, implies_true, putL, appN, appX, appC, Eng.Fi, reduceCtorEq, exists_eq_left', exists_eq_left, if_true, if_false, List.replicate, Nat.reduceAdd, Nat.reduceSub, Nat.reduceMul, Nat.reduceLeDiff, Nat.reduceLT, Nat.reduceEqDiff]
            exact go _ (r + 1) hlt (by omega) (Wkn.keep [0, 7, 8, 10, 14, 16] rfl))
      · have e1 : ((r : Int) < (m.length : Int)) = False := eq_false (by omega)
        simp +contextual -implicitDefEqProofs (maxSteps := 2000000) only [S_cp2, e1, List.length_map, ruB, rh_no, Int.reduceLT, Int.reduceLE, Int.reduceAdd, Int.reduceSub, Int.reduceMul, Int.reduceNeg, Int.reduceToNat, Int.reduceEq, Int.reduceNe, Int.reduceTDiv, Int.reduceTMod, implies_true, putL, appN, appX, appC, Eng.Fi, reduceCtorEq, exists_eq_left', exists_eq_left, if_true, if_false, List.replicate, Nat.reduceAdd, Nat.reduceSub, Nat.reduceMul, Nat.reduceLeDiff, Nat.reduceLT, Nat.reduceEqDiff]
    · have h0' := eq_false h0
      refine c5.fok (by simp only [subs, sub1, free_L]) (Cor.run (addC_good g_rMatrixErr (addC_good g_small6 (addC_good g_awake (noC_good _)))) (noHx_good _) hm ?_)
      simp +contextual -implicitDefEqProofs (maxSteps := 2000000) only [bg_eq, a5, x_awake, y1, y2, h0', not_true_eq_false, not_false_eq_true, ruB, rh_no, Int.reduceLT, Int.reduceLE, Int.reduceAdd, Int.reduceSub, Int.reduceMul, Int.reduceNeg, Int.reduceToNat, Int.reduceEq, Int.reduceNe, Int.reduceTDiv, Int.reduceTMod, implies_true, putL, appN, appX, appC, Eng.Fi, reduceCtorEq, exists_eq_left', exists_eq_left, if_true, if_false, List.replicate, Nat.reduceAdd, Nat.reduceSub, Nat.reduceMul, Nat.reduceLeDiff, Nat.reduceLT, Nat.reduceEqDiff]
  · rw [decide_eq_false hs] at y1
    refine c5.fok (by simp only [subs, sub1, free_L]) (Cor.run (addC_good g_small6 (addC_good g_awake (noC_good _))) (noHx_good _) hm ?_)
    simp +contextual -implicitDefEqProofs (maxSteps := 2000000) only [bg_eq, a5, x_awake, y1, not_false_eq_true, ruB, rh_no, Int.reduceLT, Int.reduceLE, Int.reduceAdd, Int.reduceSub, Int.reduceMul, Int.reduceNeg, Int.reduceToNat, Int.reduceEq, Int.reduceNe, Int.reduceTDiv, Int.reduceTMod, implies_true, putL, appN, appX, appC, Eng.Fi, reduceCtorEq, exists_eq_left', exists_eq_left, if_true, if_false, List.replicate, Nat.reduceAdd, Nat.reduceSub, Nat.reduceMul, Nat.reduceLeDiff, Nat.reduceLT, Nat.reduceEqDiff]
theorem arInt1 {n : Nat} {u : AV} (h : ArG P n 3 u) : ∃ m, u = I m := by
  have hh := h.one 6 (k := .i) (by kernel_rfl) (by kernel_rfl)
  simp only [ShV1] at hh
  obtain ⟨m, rfl, _⟩ := hh
  exact ⟨m, rfl⟩
theorem law5 (n0 : Nat) (u0 : AV) (a0 : ArG P n0 22 u0) (n1 : Nat) (u1 : AV) (a1 : ArG P n1 3 u1) : FOk P 5 [u0, u1] (.bool true) := by
  obtain ⟨m, rfl, h1, h2⟩ := arLists0 a0
  obtain ⟨k, rfl⟩ := arInt1 a1
  exact k_WakeCheapest m k
end Wa
