import Derived.Test.YtabkbhpeeefmgaaEngS9
import Derived.Test.YtabkbhpeeefmgaaW50
open Go Go.Proofs Eng
set_option maxRecDepth 100000
set_option linter.unusedSimpArgs false
set_option linter.unusedVariables false
def a6 : AC := .seq (.ops false [] [⟨some 2, .p (.mov), [.c (.bool false)], none⟩]) (.seq (.seq (.ops false [] [⟨some 14, .call 13, [], none⟩, ⟨some 15, .p (.notB), [.t 14], none⟩]) (.cond (.t 15) (.seq (.ops false [] [⟨some 2, .p (.mov), [.c (.bool false)], none⟩]) (.ret)) (.skip))) (.seq (.seq (.ops false [] [⟨some 16, .p (.mov), [.t 0], none⟩, ⟨some 17, .call 32, [.t 16], none⟩, ⟨some 18, .p (.notB), [.t 17], none⟩]) (.cond (.t 18) (.seq (.ops false [] [⟨some 2, .p (.mov), [.c (.bool true)], none⟩]) (.ret)) (.skip))) (.seq (.ops false [] [⟨some 20, .p (.mov), [.t 0], none⟩, ⟨some 21, .call 34, [.t 20], none⟩, ⟨some 22, .call 33, [.t 21], none⟩, ⟨some 19, .p (.mov), [.t 22], none⟩, ⟨some 23, .p (.ext 0), [.t 19], none⟩, ⟨some 24, .p (.ext 1), [.t 19], none⟩, ⟨some 3, .p (.mov), [.t 23], none⟩, ⟨some 4, .p (.mov), [.t 24], none⟩]) (.seq (.ops false [] [⟨some 26, .p (.mov), [.t 0], none⟩, ⟨some 27, .call 34, [.t 26], none⟩, ⟨some 28, .call 35, [.t 27], none⟩, ⟨some 25, .p (.mov), [.t 28], none⟩, ⟨some 29, .p (.ext 0), [.t 25], none⟩, ⟨some 30, .p (.ext 1), [.t 25], none⟩, ⟨some 31, .p (.ext 2), [.t 25], none⟩, ⟨some 5, .p (.mov), [.t 29], none⟩, ⟨some 6, .p (.mov), [.t 30], none⟩, ⟨some 7, .p (.mov), [.t 31], none⟩]) (.seq (.ops false [] [⟨some 33, .p (.mov), [.t 0], none⟩, ⟨some 34, .call 34, [.t 33], none⟩, ⟨some 35, .call 36, [.t 34], none⟩, ⟨some 32, .p (.mov), [.t 35], none⟩, ⟨some 36, .p (.ext 0), [.t 32], none⟩, ⟨some 37, .p (.ext 1), [.t 32], none⟩, ⟨some 8, .p (.mov), [.t 36], none⟩, ⟨some 9, .p (.mov), [.t 37], none⟩]) (.seq (.ops false [] [⟨some 39, .p (.mov), [.t 0], none⟩, ⟨some 40, .call 37, [.t 39], none⟩, ⟨some 38, .p (.mov), [.t 40], none⟩, ⟨some 41, .p (.ext 0), [.t 38], none⟩, ⟨some 42, .p (.ext 1), [.t 38], none⟩, ⟨some 10, .p (.mov), [.t 41], none⟩, ⟨some 11, .p (.mov), [.t 42], none⟩]) (.seq (.seq (.ops false [] [⟨some 43, .p (.mov), [.t 4], none⟩, ⟨some 44, .p (.mov), [.t 11], none⟩, ⟨some 45, .p (.binI .neq), [.t 43, .t 44], none⟩, ⟨some 46, .p (.mov), [.t 45], none⟩, ⟨some 47, .p (.mov), [.t 3], some (46, false)⟩, ⟨some 48, .p (.mov), [.t 10], some (46, false)⟩, ⟨some 49, .p (.binI .neq), [.t 47, .t 48], some (46, false)⟩, ⟨some 50, .p (.pick), [.t 46, .c (.bool true), .t 49], none⟩]) (.cond (.t 50) (.seq (.ops false [] [⟨some 2, .p (.mov), [.c (.bool false)], none⟩]) (.ret)) (.skip))) (.seq (.seq (.ops false [] [⟨some 51, .p (.mov), [.t 11], none⟩, ⟨some 52, .p (.binI .neq), [.t 51, .c (.int .i64 0)], none⟩]) (.cond (.t 52) (.seq (.ops false [] [⟨some 53, .p (.mov), [.t 7], none⟩, ⟨some 54, .p (.mov), [.t 11], none⟩, ⟨some 55, .p (.binI .eql), [.t 53, .t 54], none⟩, ⟨some 56, .p (.mov), [.t 55], none⟩, ⟨some 57, .p (.mov), [.t 9], some (56, true)⟩, ⟨some 58, .p (.mov), [.t 11], some (56, true)⟩, ⟨some 59, .p (.binI .eql), [.t 57, .t 58], some (56, true)⟩, ⟨some 60, .p (.pick), [.t 56, .t 59, .c (.bool false)], none⟩, ⟨some 61, .p (.mov), [.t 60], none⟩, ⟨some 62, .p (.mov), [.t 5], some (61, true)⟩, ⟨some 63, .p (.lenS), [.t 62], some (61, true)⟩, ⟨some 64, .p (.mov), [.t 8], some (61, true)⟩, ⟨some 65, .p (.lenS), [.t 64], some (61, true)⟩, ⟨some 66, .p (.binI .add), [.t 63, .t 65], some (61, true)⟩, ⟨some 67, .p (.binI .eql), [.t 66, .c (.int .i64 0)], some (61, true)⟩, ⟨some 68, .p (.pick), [.t 61, .t 67, .c (.bool false)], none⟩, ⟨some 69, .p (.mov), [.t 68], none⟩, ⟨some 70, .p (.mov), [.t 6], some (69, true)⟩, ⟨some 71, .p (.binI .eql), [.t 70, .c (.int .i64 0)], some (69, true)⟩, ⟨some 72, .p (.pick), [.t 69, .t 71, .c (.bool false)], none⟩, ⟨some 2, .p (.mov), [.t 72], none⟩]) (.ret)) (.skip))) (.seq (.ops false [] [⟨some 74, .p (.mov), [.t 0], none⟩, ⟨some 75, .call 38, [.t 74], none⟩, ⟨some 73, .p (.mov), [.t 75], none⟩, ⟨some 76, .p (.ext 0), [.t 73], none⟩, ⟨some 77, .p (.ext 1), [.t 73], none⟩, ⟨some 12, .p (.mov), [.t 76], none⟩, ⟨some 13, .p (.mov), [.t 77], none⟩]) (.seq (.ops false [] [⟨some 78, .p (.mov), [.t 7], none⟩, ⟨some 79, .p (.binI .eql), [.t 78, .c (.int .i64 0)], none⟩, ⟨some 80, .p (.mov), [.t 79], none⟩, ⟨some 81, .p (.mov), [.t 5], some (80, true)⟩, ⟨some 82, .p (.mov), [.t 12], some (80, true)⟩, ⟨some 83, .p (.iaddrS 1), [.t 82, .c (.int .i64 0)], some (80, true)⟩, ⟨some 84, .load 1 false, [.t 83], some (80, true)⟩, ⟨some 85, .call 39, [.t 81, .t 84], some (80, true)⟩, ⟨some 86, .p (.pick), [.t 80, .t 85, .c (.bool false)], none⟩, ⟨some 87, .p (.mov), [.t 86], none⟩, ⟨some 88, .p (.mov), [.t 6], some (87, true)⟩, ⟨some 89, .p (.mov), [.t 13], some (87, true)⟩, ⟨some 90, .p (.binI .eql), [.t 88, .t 89], some (87, true)⟩, ⟨some 91, .p (.pick), [.t 87, .t 90, .c (.bool false)], none⟩, ⟨some 92, .p (.mov), [.t 91], none⟩, ⟨some 93, .p (.mov), [.t 9], some (92, true)⟩, ⟨some 94, .p (.binI .eql), [.t 93, .c (.int .i64 0)], some (92, true)⟩, ⟨some 95, .p (.pick), [.t 92, .t 94, .c (.bool false)], none⟩, ⟨some 96, .p (.mov), [.t 95], none⟩, ⟨some 97, .p (.mov), [.t 8], some (96, true)⟩, ⟨some 98, .p (.mov), [.t 0], some (96, true)⟩, ⟨some 99, .call 40, [.t 98], some (96, true)⟩, ⟨some 100, .call 39, [.t 97, .t 99], some (96, true)⟩, ⟨some 101, .p (.pick), [.t 96, .t 100, .c (.bool false)], none⟩, ⟨some 2, .p (.mov), [.t 101], none⟩]) (.ret)))))))))))
theorem c6 : FnC Try.prog 6 102 a6 [.tmp 2] := ⟨Try.call6, _, _, Try.func6, rfl, by kernel_rfl, by kernel_rfl, rfl⟩
namespace Wa
set_option maxHeartbeats 4000000 in
theorem k_WakeMatrices (m : List L) : FOk P 6 [.vs (m.map eL)] (.bool true) := by
  have y1 := x_small6 m
  by_cases hs : smP m
  · have hs' := eq_true hs
    have hm0 : m.length ≤ 1099511627776 ∧ ∀ r ∈ m, r.length ≤ 1099511627776 := ⟨by have := hs.1; omega, fun r hr => by have := hs.2.1 r hr; omega⟩
    have hb : m.length ≤ 1000 ∧ ∀ r ∈ m, r.length ≤ 1000 := ⟨by have := hs.1; omega, fun r hr => by have := hs.2.1 r hr; omega⟩
    have y2 := x_CopyMatrix m (by simp only [eq_iff_iff, iff_true]; exact hb)
    have y3 := x_CheckMatrix m (by simp only [eq_iff_iff, iff_true]; exact hm0)
    have y4 := x_CheapestOf m (by simp only [eq_iff_iff, iff_true]; exact hm0)
    have y5 := x_CertainIn m (by simp only [eq_iff_iff, iff_true]; exact hm0)
    have y6 := x_rCheckMatrix m (by simp only [eq_iff_iff, iff_true]; exact hm0)
    have hfm := fun φ => free_L φ m
    by_cases h0 : (cmV m).2 = 0
    · have h0' := eq_true h0
      rw [coV, if_pos h0] at y4
      rw [ceV, if_pos h0] at y5
      have y7 := x_rCheapest m (by simp only [h0])
      have y8 := x_rCertain m (by simp only [h0])
      have hr := chV_rows h0
      have hcl : (ceL m).length ≤ m.length := ceG_len _ _
      have hn := hs.1
      generalize ceL m = ce at *
      generalize chV m = q at *
      generalize cmV m = cq at *
      obtain ⟨b, c⟩ := q
      simp only at hr y4 y7
      obtain ⟨hr1, hr2, hr3⟩ := hr
      have g0 : (b.map eL)[0]? = some (eL (b.headD [])) := by
        cases b with
        | nil => simp at hr1
        | cons a l => rfl
      have hh : b.headD [] ∈ b := by
        cases b with
        | nil => simp at hr1
        | cons a l => simp
      have hq0 := hr3 _ hh
      generalize b.headD [] = q0 at *
      have v1 := x_Ints q0 q0 (by simp only [eq_iff_iff, iff_true]; omega)
      have v2 := x_Ints ce ce (by simp only [eq_iff_iff, iff_true]; omega)
      have d1 : decide (q0 = q0) = true := decide_eq_true rfl
      have d2 : decide (ce = ce) = true := decide_eq_true rfl
      rw [d1] at v1
      rw [d2] at v2
      refine c6.fok (by simp only [subs, sub1, free_L]) (Cor.run (addC_good g_Ints (addC_good g_rCertain (addC_good g_rCheapest (addC_good g_rCheckMatrix (addC_good g_CertainIn (addC_good g_CheapestOf (addC_good g_CheckMatrix (addC_good g_CopyMatrix (addC_good g_small6 (addC_good g_awake (noC_good _))))))))))) (noHx_good _) hm ?_)
      simp +contextual -implicitDefEqProofs (maxSteps := 2000000) only [bg_eq, a6, x_awake, y1, y2, y3, y4, y5, y6, y7, y8, v1, v2, g0, hs', h0', Int.natCast_zero, not_true_eq_false, not_false_eq_true, ruB, rh_no, Int.reduceLT, Int.reduceLE, Int.reduceAdd, Int.reduceSub, Int.reduceMul, Int.reduceNeg, Int.reduceToNat, Int.reduceEq, Int.reduceNe, Int.reduceTDiv, Int.reduceTMod, implies_true, putL, appN, appX, appC, Eng.Fi, reduceCtorEq, exists_eq_left', exists_eq_left, if_true, if_false, List.replicate, Nat.reduceAdd, Nat.reduceSub, Nat.reduceMul, Nat.reduceLeDiff, Nat.reduceLT, Nat.reduceEqDiff]
    · have h0' := eq_false h0
      rw [coV, if_neg h0] at y4
      rw [ceV, if_neg h0] at y5
      generalize cmV m = cq at *
      refine c6.fok (by simp only [subs, sub1, free_L]) (Cor.run (addC_good g_Ints (addC_good g_rCertain (addC_good g_rCheapest (addC_good g_rCheckMatrix (addC_good g_CertainIn (addC_good g_CheapestOf (addC_good g_CheckMatrix (addC_good g_CopyMatrix (addC_good g_small6 (addC_good g_awake (noC_good _))))))))))) (noHx_good _) hm ?_)
      simp +contextual -implicitDefEqProofs (maxSteps := 2000000) only [bg_eq, a6, x_awake, y1, y2, y3, y4, y5, y6, hs', h0', Int.natCast_zero, not_true_eq_false, not_false_eq_true, ruB, rh_no, Int.reduceLT, Int.reduceLE, Int.reduceAdd, Int.reduceSub, Int.reduceMul, Int.reduceNeg, Int.reduceToNat, Int.reduceEq, Int.reduceNe, Int.reduceTDiv, Int.reduceTMod, implies_true, putL, appN, appX, appC, Eng.Fi, reduceCtorEq, exists_eq_left', exists_eq_left, if_true, if_false, List.replicate, Nat.reduceAdd, Nat.reduceSub, Nat.reduceMul, Nat.reduceLeDiff, Nat.reduceLT, Nat.reduceEqDiff]
  · have hs' := eq_false hs
    refine c6.fok (by simp only [subs, sub1, free_L]) (Cor.run (addC_good g_Ints (addC_good g_rCertain (addC_good g_rCheapest (addC_good g_rCheckMatrix (addC_good g_CertainIn (addC_good g_CheapestOf (addC_good g_CheckMatrix (addC_good g_CopyMatrix (addC_good g_small6 (addC_good g_awake (noC_good _))))))))))) (noHx_good _) hm ?_)
    simp +contextual -implicitDefEqProofs (maxSteps := 2000000) only [bg_eq, a6, x_awake, y1, hs', not_true_eq_false, not_false_eq_true, ruB, rh_no, Int.reduceLT, Int.reduceLE, Int.reduceAdd, Int.reduceSub, Int.reduceMul, Int.reduceNeg, Int.reduceToNat, Int.reduceEq, Int.reduceNe, Int.reduceTDiv, Int.reduceTMod, implies_true, putL, appN, appX, appC, Eng.Fi, reduceCtorEq, exists_eq_left', exists_eq_left, if_true, if_false, List.replicate, Nat.reduceAdd, Nat.reduceSub, Nat.reduceMul, Nat.reduceLeDiff, Nat.reduceLT, Nat.reduceEqDiff]
theorem arLists {n : Nat} {u : AV} (h : ArG P n 66 u) : ∃ m : List L, u = .vs (m.map eL) ∧ m.length ≤ maxLen ∧ ∀ r ∈ m, r.length ≤ maxLen := by
  have hh := h.one 6 (k := .sl false [.sl false [.i]]) (by kernel_rfl) (by kernel_rfl)
  simp only [ShV1] at hh
  obtain ⟨l, rfl, hl, hlen⟩ := hh
  obtain ⟨gs, e1, e2⟩ := sl_enc (α := {r : L // r.length ≤ maxLen}) (fun r => eL r.1) (ag := false) (fun p hp => by
    simp only [ShV, ShV1] at hp
    obtain ⟨_, _, rfl, ⟨l', rfl, hl', hlen'⟩, rfl⟩ := hp
    obtain ⟨gs, e1, e2⟩ := sl_enc (α := Int) eI (ag := false) (fun p hp => by
      obtain ⟨_, _, rfl, ⟨a, rfl, _⟩, rfl⟩ := hp
      exact ⟨a, rfl⟩) hl'
    exact ⟨⟨gs, by rw [e2]; exact hlen'⟩, by show AV.vs _ = AV.vs _; rw [e1]⟩) hl
  rw [e1]
  refine ⟨gs.map Subtype.val, by rw [List.map_map]; rfl, by rw [List.length_map, e2]; exact hlen, fun r hr => ?_⟩
  obtain ⟨x, _, rfl⟩ := List.mem_map.1 hr
  exact x.2
theorem law6 (n0 : Nat) (u0 : AV) (a0 : ArG P n0 66 u0) : FOk P 6 [u0] (.bool true) := by
  obtain ⟨m, rfl, h1, h2⟩ := arLists a0
  exact k_WakeMatrices m
end Wa
