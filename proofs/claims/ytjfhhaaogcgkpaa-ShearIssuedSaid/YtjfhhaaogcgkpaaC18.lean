import Derived.Test.YtjfhhaaogcgkpaaEngS9
import Derived.Test.YtjfhhaaogcgkpaaC14
open Go Go.Proofs Eng
set_option maxRecDepth 100000
set_option linter.unusedSimpArgs false
set_option linter.unusedVariables false
def a49 : AC := .seq (.ops false [] [⟨some 1, .box 47 5 1 true, [.t 0], none⟩, ⟨some 2, .p (.mov), [.c (.int .i64 0)], none⟩]) (.seq (.seq (.ops false [] [⟨some 3, .p (.faddr 1), [.t 1], none⟩, ⟨some 4, .load 1 false, [.t 3], none⟩, ⟨some 5, .call 107, [.t 4, .c (.int .i64 0), .c (.int .i64 62500)], none⟩, ⟨some 6, .p (.notB), [.t 5], none⟩, ⟨some 7, .p (.mov), [.t 6], none⟩, ⟨some 8, .p (.faddr 2), [.t 1], some (7, false)⟩, ⟨some 9, .load 1 false, [.t 8], some (7, false)⟩, ⟨some 10, .call 91, [.t 9], some (7, false)⟩, ⟨some 11, .p (.notB), [.t 10], some (7, false)⟩, ⟨some 12, .p (.pick), [.t 7, .c (.bool true), .t 11], none⟩, ⟨some 13, .p (.mov), [.t 12], none⟩, ⟨some 14, .p (.faddr 3), [.t 1], some (13, false)⟩, ⟨some 15, .load 1 false, [.t 14], some (13, false)⟩, ⟨some 16, .call 108, [.t 15], some (13, false)⟩, ⟨some 17, .p (.notB), [.t 16], some (13, false)⟩, ⟨some 18, .p (.pick), [.t 13, .c (.bool true), .t 17], none⟩, ⟨some 19, .p (.mov), [.t 18], none⟩, ⟨some 20, .p (.faddr 4), [.t 1], some (19, false)⟩, ⟨some 21, .load 1 false, [.t 20], some (19, false)⟩, ⟨some 22, .call 108, [.t 21], some (19, false)⟩, ⟨some 23, .p (.notB), [.t 22], some (19, false)⟩, ⟨some 24, .p (.pick), [.t 19, .c (.bool true), .t 23], none⟩]) (.cond (.t 24) (.seq (.ops false [] [⟨some 2, .p (.mov), [.c (.int .i64 2)], none⟩]) (.ret)) (.skip))) (.seq (.seq (.ops false [] [⟨some 25, .p (.faddr 0), [.t 1], none⟩, ⟨some 26, .load 1 false, [.t 25], none⟩, ⟨some 27, .p (.notB), [.t 26], none⟩]) (.cond (.t 27) (.seq (.ops false [] [⟨some 28, .p (.faddr 2), [.t 1], none⟩, ⟨some 29, .load 1 false, [.t 28], none⟩, ⟨some 30, .p (.binI .eql), [.t 29, .c (.int .i64 0)], none⟩, ⟨some 31, .p (.mov), [.t 30], none⟩, ⟨some 32, .p (.faddr 4), [.t 1], some (31, true)⟩, ⟨some 33, .load 1 false, [.t 32], some (31, true)⟩, ⟨some 34, .p (.binI .eql), [.t 33, .c (.int .i64 (-1))], some (31, true)⟩, ⟨some 35, .p (.pick), [.t 31, .t 34, .c (.bool false)], none⟩, ⟨some 36, .call 85, [.t 35, .c (.int .i64 3)], none⟩, ⟨some 2, .p (.mov), [.t 36], none⟩]) (.ret)) (.skip))) (.seq (.ops false [] [⟨some 37, .p (.faddr 1), [.t 1], none⟩, ⟨some 38, .load 1 false, [.t 37], none⟩, ⟨some 39, .p (.binI .gtr), [.t 38, .c (.int .i64 0)], none⟩, ⟨some 40, .p (.mov), [.t 39], none⟩, ⟨some 41, .p (.faddr 2), [.t 1], some (40, true)⟩, ⟨some 42, .load 1 false, [.t 41], some (40, true)⟩, ⟨some 43, .p (.faddr 3), [.t 1], some (40, true)⟩, ⟨some 44, .load 1 false, [.t 43], some (40, true)⟩, ⟨some 45, .p (.binI .leq), [.t 42, .t 44], some (40, true)⟩, ⟨some 46, .p (.pick), [.t 40, .t 45, .c (.bool false)], none⟩, ⟨some 47, .p (.mov), [.t 46], none⟩, ⟨some 48, .p (.faddr 4), [.t 1], some (47, true)⟩, ⟨some 49, .load 1 false, [.t 48], some (47, true)⟩, ⟨some 50, .p (.faddr 3), [.t 1], some (47, true)⟩, ⟨some 51, .load 1 false, [.t 50], some (47, true)⟩, ⟨some 52, .p (.binI .leq), [.t 49, .t 51], some (47, true)⟩, ⟨some 53, .p (.pick), [.t 47, .t 52, .c (.bool false)], none⟩, ⟨some 54, .p (.mov), [.t 53], none⟩, ⟨some 55, .p (.faddr 4), [.t 1], some (54, true)⟩, ⟨some 56, .load 1 false, [.t 55], some (54, true)⟩, ⟨some 57, .p (.binI .eql), [.t 56, .c (.int .i64 (-1))], some (54, true)⟩, ⟨some 58, .p (.mov), [.t 57], some (54, true)⟩, ⟨some 59, .p (.faddr 4), [.t 1], some (58, false)⟩, ⟨some 60, .load 1 false, [.t 59], some (58, false)⟩, ⟨some 61, .p (.faddr 2), [.t 1], some (58, false)⟩, ⟨some 62, .load 1 false, [.t 61], some (58, false)⟩, ⟨some 63, .p (.binI .geq), [.t 60, .t 62], some (58, false)⟩, ⟨some 64, .p (.pick), [.t 58, .c (.bool true), .t 63], some (54, true)⟩, ⟨some 65, .p (.pick), [.t 54, .t 64, .c (.bool false)], none⟩, ⟨some 66, .call 85, [.t 65, .c (.int .i64 3)], none⟩, ⟨some 2, .p (.mov), [.t 66], none⟩]) (.ret))))
theorem c49 : FnC Try.prog 49 67 a49 [.tmp 2] := ⟨Try.call49, _, _, Try.func49, rfl, by kernel_rfl, by kernel_rfl, rfl⟩
def a50 : AC := .seq (.ops false [] [⟨some 1, .box 47 5 1 true, [.t 0], none⟩, ⟨some 2, .p (.mov), [.c (.int .i64 0)], none⟩]) (.seq (.seq (.ops false [] [⟨some 3, .p (.faddr 1), [.t 1], none⟩, ⟨some 4, .load 1 false, [.t 3], none⟩, ⟨some 5, .call 33, [.t 4, .c (.int .i64 0), .c (.int .i64 62500)], none⟩, ⟨some 6, .p (.notB), [.t 5], none⟩, ⟨some 7, .p (.mov), [.t 6], none⟩, ⟨some 8, .p (.faddr 2), [.t 1], some (7, false)⟩, ⟨some 9, .load 1 false, [.t 8], some (7, false)⟩, ⟨some 10, .call 33, [.t 9, .c (.int .i64 0), .c (.int .i64 1000000000000)], some (7, false)⟩, ⟨some 11, .p (.notB), [.t 10], some (7, false)⟩, ⟨some 12, .p (.pick), [.t 7, .c (.bool true), .t 11], none⟩, ⟨some 13, .p (.mov), [.t 12], none⟩, ⟨some 14, .p (.faddr 3), [.t 1], some (13, false)⟩, ⟨some 15, .load 1 false, [.t 14], some (13, false)⟩, ⟨some 16, .call 33, [.t 15, .c (.int .i64 (-1)), .c (.int .i64 1000000000000)], some (13, false)⟩, ⟨some 17, .p (.notB), [.t 16], some (13, false)⟩, ⟨some 18, .p (.pick), [.t 13, .c (.bool true), .t 17], none⟩, ⟨some 19, .p (.mov), [.t 18], none⟩, ⟨some 20, .p (.faddr 4), [.t 1], some (19, false)⟩, ⟨some 21, .load 1 false, [.t 20], some (19, false)⟩, ⟨some 22, .call 33, [.t 21, .c (.int .i64 (-1)), .c (.int .i64 1000000000000)], some (19, false)⟩, ⟨some 23, .p (.notB), [.t 22], some (19, false)⟩, ⟨some 24, .p (.pick), [.t 19, .c (.bool true), .t 23], none⟩]) (.cond (.t 24) (.seq (.ops false [] [⟨some 2, .p (.mov), [.c (.int .i64 2)], none⟩]) (.ret)) (.skip))) (.seq (.seq (.ops false [] [⟨some 25, .p (.faddr 0), [.t 1], none⟩, ⟨some 26, .load 1 false, [.t 25], none⟩, ⟨some 27, .p (.notB), [.t 26], none⟩, ⟨some 28, .p (.mov), [.t 27], none⟩, ⟨some 29, .p (.faddr 2), [.t 1], some (28, true)⟩, ⟨some 30, .load 1 false, [.t 29], some (28, true)⟩, ⟨some 31, .p (.binI .neq), [.t 30, .c (.int .i64 0)], some (28, true)⟩, ⟨some 32, .p (.mov), [.t 31], some (28, true)⟩, ⟨some 33, .p (.faddr 4), [.t 1], some (32, false)⟩, ⟨some 34, .load 1 false, [.t 33], some (32, false)⟩, ⟨some 35, .p (.binI .neq), [.t 34, .c (.int .i64 (-1))], some (32, false)⟩, ⟨some 36, .p (.pick), [.t 32, .c (.bool true), .t 35], some (28, true)⟩, ⟨some 37, .p (.pick), [.t 28, .t 36, .c (.bool false)], none⟩]) (.cond (.t 37) (.seq (.ops false [] [⟨some 2, .p (.mov), [.c (.int .i64 3)], none⟩]) (.ret)) (.skip))) (.seq (.seq (.ops false [] [⟨some 38, .p (.faddr 0), [.t 1], none⟩, ⟨some 39, .load 1 false, [.t 38], none⟩, ⟨some 40, .p (.mov), [.t 39], none⟩, ⟨some 41, .p (.faddr 1), [.t 1], some (40, true)⟩, ⟨some 42, .load 1 false, [.t 41], some (40, true)⟩, ⟨some 43, .p (.binI .eql), [.t 42, .c (.int .i64 0)], some (40, true)⟩, ⟨some 44, .p (.mov), [.t 43], some (40, true)⟩, ⟨some 45, .p (.faddr 2), [.t 1], some (44, false)⟩, ⟨some 46, .load 1 false, [.t 45], some (44, false)⟩, ⟨some 47, .p (.faddr 3), [.t 1], some (44, false)⟩, ⟨some 48, .load 1 false, [.t 47], some (44, false)⟩, ⟨some 49, .p (.binI .gtr), [.t 46, .t 48], some (44, false)⟩, ⟨some 50, .p (.pick), [.t 44, .c (.bool true), .t 49], some (40, true)⟩, ⟨some 51, .p (.mov), [.t 50], some (40, true)⟩, ⟨some 52, .p (.faddr 4), [.t 1], some (51, false)⟩, ⟨some 53, .load 1 false, [.t 52], some (51, false)⟩, ⟨some 54, .p (.faddr 3), [.t 1], some (51, false)⟩, ⟨some 55, .load 1 false, [.t 54], some (51, false)⟩, ⟨some 56, .p (.binI .gtr), [.t 53, .t 55], some (51, false)⟩, ⟨some 57, .p (.pick), [.t 51, .c (.bool true), .t 56], some (40, true)⟩, ⟨some 58, .p (.mov), [.t 57], some (40, true)⟩, ⟨some 59, .p (.faddr 4), [.t 1], some (58, false)⟩, ⟨some 60, .load 1 false, [.t 59], some (58, false)⟩, ⟨some 61, .p (.binI .neq), [.t 60, .c (.int .i64 (-1))], some (58, false)⟩, ⟨some 62, .p (.mov), [.t 61], some (58, false)⟩, ⟨some 63, .p (.faddr 4), [.t 1], some (62, true)⟩, ⟨some 64, .load 1 false, [.t 63], some (62, true)⟩, ⟨some 65, .p (.faddr 2), [.t 1], some (62, true)⟩, ⟨some 66, .load 1 false, [.t 65], some (62, true)⟩, ⟨some 67, .p (.binI .lss), [.t 64, .t 66], some (62, true)⟩, ⟨some 68, .p (.pick), [.t 62, .t 67, .c (.bool false)], some (58, false)⟩, ⟨some 69, .p (.pick), [.t 58, .c (.bool true), .t 68], some (40, true)⟩, ⟨some 70, .p (.pick), [.t 40, .t 69, .c (.bool false)], none⟩]) (.cond (.t 70) (.seq (.ops false [] [⟨some 2, .p (.mov), [.c (.int .i64 3)], none⟩]) (.ret)) (.skip))) (.seq (.ops false [] [⟨some 2, .p (.mov), [.c (.int .i64 0)], none⟩]) (.ret)))))
theorem c50 : FnC Try.prog 50 71 a50 [.tmp 2] := ⟨Try.call50, _, _, Try.func50, rfl, by kernel_rfl, by kernel_rfl, rfl⟩
def a108 : AC := .seq (.ops false [] [⟨some 2, .p (.mov), [.c (.bool false)], none⟩]) (.seq (.ops false [] [⟨some 3, .p (.mov), [.t 0], none⟩, ⟨some 4, .p (.binI .eql), [.t 3, .c (.int .i64 (-1))], none⟩, ⟨some 5, .p (.mov), [.t 4], none⟩, ⟨some 6, .p (.mov), [.t 0], some (5, false)⟩, ⟨some 7, .call 91, [.t 6], some (5, false)⟩, ⟨some 8, .p (.pick), [.t 5, .c (.bool true), .t 7], none⟩, ⟨some 2, .p (.mov), [.t 8], none⟩]) (.ret))
theorem c108 : FnC Try.prog 108 9 a108 [.tmp 2] := ⟨Try.call108, _, _, Try.func108, rfl, by kernel_rfl, by kernel_rfl, rfl⟩
namespace Sh

/-! states -/
abbrev tk (n : Int) : Prop := 0 ≤ n ∧ n ≤ 1000000000000
abbrev mo (n : Int) : Prop := n = -1 ∨ tk n
def ssR (s : St) : Prop := (0 ≤ s.num ∧ s.num ≤ 62500) ∧ tk s.since ∧ mo s.heard ∧ mo s.quiet
def ssF (s : St) : Prop := if s.up = true then 0 < s.num ∧ s.since ≤ s.heard ∧ s.quiet ≤ s.heard ∧ (s.quiet = -1 ∨ s.since ≤ s.quiet) else s.since = 0 ∧ s.quiet = -1
instance (s : St) : Decidable (ssR s) := by unfold ssR; infer_instance
instance (s : St) : Decidable (ssF s) := by unfold ssF; infer_instance
def ssE (s : St) : Int := if ssR s then (if ssF s then 0 else 3) else 2
theorem ssE_f (n si he q : Int) : ssE ⟨false, n, si, he, q⟩ = if (0 ≤ n ∧ n ≤ 62500) ∧ tk si ∧ mo he ∧ mo q then (if si = 0 ∧ q = -1 then 0 else 3) else 2 := by
  unfold ssE
  congr 1
theorem ssE_t (n si he q : Int) : ssE ⟨true, n, si, he, q⟩ = if (0 ≤ n ∧ n ≤ 62500) ∧ tk si ∧ mo he ∧ mo q then (if 0 < n ∧ si ≤ he ∧ q ≤ he ∧ (q = -1 ∨ si ≤ q) then 0 else 3) else 2 := by
  unfold ssE
  congr 1
theorem ssE_zero {s : St} (h : ssE s = 0) : (0 ≤ s.num ∧ s.num ≤ 62500) ∧ tk s.since ∧ mo s.heard ∧ mo s.quiet ∧ ssF s := by
  unfold ssE at h
  split at h
  · rename_i h1
    split at h
    · rename_i h2; exact ⟨h1.1, h1.2.1, h1.2.2.1, h1.2.2.2, h2⟩
    · cases h
  · cases h
theorem k108 (n : Int) : FOk P 108 [I n] (B (decide (mo n))) := by
  refine c108.fok rfl (Cor.run (addC_good g91 (noC_good _)) (noHx_good _) hm ?_)
  simp +contextual -implicitDefEqProofs only [bg_eq, a108, x91, ruB, rh_no, Int.reduceLT, Int.reduceLE, Int.reduceAdd, Int.reduceSub, Int.reduceMul, Int.reduceNeg, Int.reduceToNat, Int.reduceEq, Int.reduceNe, Int.reduceTDiv, Int.reduceTMod, implies_true, putL, appN, appX, Eng.Fi, reduceCtorEq, exists_eq_left', exists_eq_left, if_true, if_false, List.replicate, Nat.reduceAdd, Nat.reduceSub, Nat.reduceMul, Nat.reduceLeDiff, Nat.reduceLT, Nat.reduceEqDiff]
def c108f : List AV → Option AV
  | [.int .i64 n] => some (.bool (decide (n = -1 ∨ (0 ≤ n ∧ n ≤ 1000000000000))))
  | _ => none
theorem g108 : Fn P 108 c108f := fun args v h => by
  unfold c108f at h; split at h
  · cases h; exact k108 _
  · cases h
theorem x108 (n : Int) : c108f [.int .i64 n] = some (.bool (decide (n = -1 ∨ (0 ≤ n ∧ n ≤ 1000000000000)))) := rfl
theorem x85t (e : Int) : c85f [.bool true, .int .i64 e] = some (.int .i64 0) := rfl
theorem x85f (e : Int) : c85f [.bool false, .int .i64 e] = some (.int .i64 e) := rfl
set_option maxHeartbeats 2000000 in
theorem k49 (s : St) : FOk P 49 [eS s] (I (ssE s)) := by
  refine c49.fok rfl (Cor.run (addC_good g85 (addC_good g108 (addC_good g91 (addC_good g107 (noC_good _))))) (noHx_good _) hm ?_)
  obtain ⟨u, n, si, he, q⟩ := s
  by_cases h0 : (0 ≤ n ∧ n ≤ 62500)
  · have g0 : (0 ≤ n ∧ n ≤ 62500) = True := by simp only [eq_iff_iff, iff_true]; omega
    by_cases h1 : (0 ≤ si ∧ si ≤ 1000000000000)
    · have g1 : (0 ≤ si ∧ si ≤ 1000000000000) = True := by simp only [eq_iff_iff, iff_true]; omega
      by_cases h2 : (he = -1 ∨ 0 ≤ he ∧ he ≤ 1000000000000)
      · have g2 : (he = -1 ∨ 0 ≤ he ∧ he ≤ 1000000000000) = True := by simp only [eq_iff_iff, iff_true]; omega
        by_cases h3 : (q = -1 ∨ 0 ≤ q ∧ q ≤ 1000000000000)
        · have g3 : (q = -1 ∨ 0 ≤ q ∧ q ≤ 1000000000000) = True := by simp only [eq_iff_iff, iff_true]; omega
          cases u
          · by_cases hA : si = 0
            · have a0 : (si = 0) = True := by simp only [hA]
              by_cases hB : q = -1
              · have b0 : (q = -1) = True := by simp only [hB]
                simp +contextual -implicitDefEqProofs only [bg_eq, a49, x107, x91, x108, x85t, x85f, g0, g1, g2, g3, a0, b0, not_true_eq_false, not_false_eq_true, ruB, rh_no, Int.reduceLT, Int.reduceLE, Int.reduceAdd, Int.reduceSub, Int.reduceMul, Int.reduceNeg, Int.reduceToNat, Int.reduceEq, Int.reduceNe, Int.reduceTDiv, Int.reduceTMod, implies_true, putL, appN, appX, Eng.Fi, reduceCtorEq, exists_eq_left', exists_eq_left, if_true, if_false, List.replicate, Nat.reduceAdd, Nat.reduceSub, Nat.reduceMul, Nat.reduceLeDiff, Nat.reduceLT, Nat.reduceEqDiff]
                rw [ssE_f, if_pos (by omega), if_pos (by omega)]
              · have b0 : (q = -1) = False := by simp only [hB]
                have p0 : (0 ≤ q ∧ q ≤ 1000000000000) = True := by simp only [eq_iff_iff, iff_true]; omega
                simp +contextual -implicitDefEqProofs only [bg_eq, a49, x107, x91, x108, x85t, x85f, g0, g1, g2, g3, a0, b0, p0, or_true, not_true_eq_false, not_false_eq_true, ruB, rh_no, Int.reduceLT, Int.reduceLE, Int.reduceAdd, Int.reduceSub, Int.reduceMul, Int.reduceNeg, Int.reduceToNat, Int.reduceEq, Int.reduceNe, Int.reduceTDiv, Int.reduceTMod, implies_true, putL, appN, appX, Eng.Fi, reduceCtorEq, exists_eq_left', exists_eq_left, if_true, if_false, List.replicate, Nat.reduceAdd, Nat.reduceSub, Nat.reduceMul, Nat.reduceLeDiff, Nat.reduceLT, Nat.reduceEqDiff]
                rw [ssE_f, if_pos (by omega), if_neg (by omega)]
            · have a0 : (si = 0) = False := by simp only [hA]
              simp +contextual -implicitDefEqProofs only [bg_eq, a49, x107, x91, x108, x85t, x85f, g0, g1, g2, g3, a0, not_true_eq_false, not_false_eq_true, ruB, rh_no, Int.reduceLT, Int.reduceLE, Int.reduceAdd, Int.reduceSub, Int.reduceMul, Int.reduceNeg, Int.reduceToNat, Int.reduceEq, Int.reduceNe, Int.reduceTDiv, Int.reduceTMod, implies_true, putL, appN, appX, Eng.Fi, reduceCtorEq, exists_eq_left', exists_eq_left, if_true, if_false, List.replicate, Nat.reduceAdd, Nat.reduceSub, Nat.reduceMul, Nat.reduceLeDiff, Nat.reduceLT, Nat.reduceEqDiff]
              rw [ssE_f, if_pos (by omega), if_neg (by omega)]
          · by_cases k0 : 0 < n
            · have f0 : (0 < n) = True := by simp only [eq_iff_iff, iff_true]; omega
              by_cases k1 : si ≤ he
              · have f1 : (si ≤ he) = True := by simp only [eq_iff_iff, iff_true]; omega
                by_cases k2 : q ≤ he
                · have f2 : (q ≤ he) = True := by simp only [eq_iff_iff, iff_true]; omega
                  by_cases hB : q = -1
                  · have b0 : (q = -1) = True := by simp only [hB]
                    simp +contextual -implicitDefEqProofs only [bg_eq, a49, x107, x91, x108, x85t, x85f, g0, g1, g2, g3, f0, f1, f2, b0, not_true_eq_false, not_false_eq_true, ruB, rh_no, Int.reduceLT, Int.reduceLE, Int.reduceAdd, Int.reduceSub, Int.reduceMul, Int.reduceNeg, Int.reduceToNat, Int.reduceEq, Int.reduceNe, Int.reduceTDiv, Int.reduceTMod, implies_true, putL, appN, appX, Eng.Fi, reduceCtorEq, exists_eq_left', exists_eq_left, if_true, if_false, List.replicate, Nat.reduceAdd, Nat.reduceSub, Nat.reduceMul, Nat.reduceLeDiff, Nat.reduceLT, Nat.reduceEqDiff]
                    rw [ssE_t, if_pos (by omega), if_pos (by omega)]
                  · have b0 : (q = -1) = False := by simp only [hB]
                    have p0 : (0 ≤ q ∧ q ≤ 1000000000000) = True := by simp only [eq_iff_iff, iff_true]; omega
                    by_cases hC : si ≤ q
                    · have c0 : (si ≤ q) = True := by simp only [eq_iff_iff, iff_true]; omega
                      simp +contextual -implicitDefEqProofs only [bg_eq, a49, x107, x91, x108, x85t, x85f, g0, g1, g2, g3, f0, f1, f2, b0, p0, or_true, c0, not_true_eq_false, not_false_eq_true, ruB, rh_no, Int.reduceLT, Int.reduceLE, Int.reduceAdd, Int.reduceSub, Int.reduceMul, Int.reduceNeg, Int.reduceToNat, Int.reduceEq, Int.reduceNe, Int.reduceTDiv, Int.reduceTMod, implies_true, putL, appN, appX, Eng.Fi, reduceCtorEq, exists_eq_left', exists_eq_left, if_true, if_false, List.replicate, Nat.reduceAdd, Nat.reduceSub, Nat.reduceMul, Nat.reduceLeDiff, Nat.reduceLT, Nat.reduceEqDiff]
                      rw [ssE_t, if_pos (by omega), if_pos (by omega)]
                    · have c0 : (si ≤ q) = False := by simp only [eq_iff_iff, iff_false]; omega
                      simp +contextual -implicitDefEqProofs only [bg_eq, a49, x107, x91, x108, x85t, x85f, g0, g1, g2, g3, f0, f1, f2, b0, p0, or_true, c0, not_true_eq_false, not_false_eq_true, ruB, rh_no, Int.reduceLT, Int.reduceLE, Int.reduceAdd, Int.reduceSub, Int.reduceMul, Int.reduceNeg, Int.reduceToNat, Int.reduceEq, Int.reduceNe, Int.reduceTDiv, Int.reduceTMod, implies_true, putL, appN, appX, Eng.Fi, reduceCtorEq, exists_eq_left', exists_eq_left, if_true, if_false, List.replicate, Nat.reduceAdd, Nat.reduceSub, Nat.reduceMul, Nat.reduceLeDiff, Nat.reduceLT, Nat.reduceEqDiff]
                      rw [ssE_t, if_pos (by omega), if_neg (by omega)]
                · have f2 : (q ≤ he) = False := by simp only [eq_iff_iff, iff_false]; omega
                  simp +contextual -implicitDefEqProofs only [bg_eq, a49, x107, x91, x108, x85t, x85f, g0, g1, g2, g3, f0, f1, f2, not_true_eq_false, not_false_eq_true, ruB, rh_no, Int.reduceLT, Int.reduceLE, Int.reduceAdd, Int.reduceSub, Int.reduceMul, Int.reduceNeg, Int.reduceToNat, Int.reduceEq, Int.reduceNe, Int.reduceTDiv, Int.reduceTMod, implies_true, putL, appN, appX, Eng.Fi, reduceCtorEq, exists_eq_left', exists_eq_left, if_true, if_false, List.replicate, Nat.reduceAdd, Nat.reduceSub, Nat.reduceMul, Nat.reduceLeDiff, Nat.reduceLT, Nat.reduceEqDiff]
                  rw [ssE_t, if_pos (by omega), if_neg (by omega)]
              · have f1 : (si ≤ he) = False := by simp only [eq_iff_iff, iff_false]; omega
                simp +contextual -implicitDefEqProofs only [bg_eq, a49, x107, x91, x108, x85t, x85f, g0, g1, g2, g3, f0, f1, not_true_eq_false, not_false_eq_true, ruB, rh_no, Int.reduceLT, Int.reduceLE, Int.reduceAdd, Int.reduceSub, Int.reduceMul, Int.reduceNeg, Int.reduceToNat, Int.reduceEq, Int.reduceNe, Int.reduceTDiv, Int.reduceTMod, implies_true, putL, appN, appX, Eng.Fi, reduceCtorEq, exists_eq_left', exists_eq_left, if_true, if_false, List.replicate, Nat.reduceAdd, Nat.reduceSub, Nat.reduceMul, Nat.reduceLeDiff, Nat.reduceLT, Nat.reduceEqDiff]
                rw [ssE_t, if_pos (by omega), if_neg (by omega)]
            · have f0 : (0 < n) = False := by simp only [eq_iff_iff, iff_false]; omega
              simp +contextual -implicitDefEqProofs only [bg_eq, a49, x107, x91, x108, x85t, x85f, g0, g1, g2, g3, f0, not_true_eq_false, not_false_eq_true, ruB, rh_no, Int.reduceLT, Int.reduceLE, Int.reduceAdd, Int.reduceSub, Int.reduceMul, Int.reduceNeg, Int.reduceToNat, Int.reduceEq, Int.reduceNe, Int.reduceTDiv, Int.reduceTMod, implies_true, putL, appN, appX, Eng.Fi, reduceCtorEq, exists_eq_left', exists_eq_left, if_true, if_false, List.replicate, Nat.reduceAdd, Nat.reduceSub, Nat.reduceMul, Nat.reduceLeDiff, Nat.reduceLT, Nat.reduceEqDiff]
              rw [ssE_t, if_pos (by omega), if_neg (by omega)]
        · have g3 : (q = -1 ∨ 0 ≤ q ∧ q ≤ 1000000000000) = False := by simp only [eq_iff_iff, iff_false]; omega
          cases u <;> simp +contextual -implicitDefEqProofs only [bg_eq, a49, x107, x91, x108, x85t, x85f, g0, g1, g2, g3, not_true_eq_false, not_false_eq_true, ruB, rh_no, Int.reduceLT, Int.reduceLE, Int.reduceAdd, Int.reduceSub, Int.reduceMul, Int.reduceNeg, Int.reduceToNat, Int.reduceEq, Int.reduceNe, Int.reduceTDiv, Int.reduceTMod, implies_true, putL, appN, appX, Eng.Fi, reduceCtorEq, exists_eq_left', exists_eq_left, if_true, if_false, List.replicate, Nat.reduceAdd, Nat.reduceSub, Nat.reduceMul, Nat.reduceLeDiff, Nat.reduceLT, Nat.reduceEqDiff]
          · rw [ssE_f, if_neg (by omega)]
          · rw [ssE_t, if_neg (by omega)]
      · have g2 : (he = -1 ∨ 0 ≤ he ∧ he ≤ 1000000000000) = False := by simp only [eq_iff_iff, iff_false]; omega
        cases u <;> simp +contextual -implicitDefEqProofs only [bg_eq, a49, x107, x91, x108, x85t, x85f, g0, g1, g2, not_true_eq_false, not_false_eq_true, ruB, rh_no, Int.reduceLT, Int.reduceLE, Int.reduceAdd, Int.reduceSub, Int.reduceMul, Int.reduceNeg, Int.reduceToNat, Int.reduceEq, Int.reduceNe, Int.reduceTDiv, Int.reduceTMod, implies_true, putL, appN, appX, Eng.Fi, reduceCtorEq, exists_eq_left', exists_eq_left, if_true, if_false, List.replicate, Nat.reduceAdd, Nat.reduceSub, Nat.reduceMul, Nat.reduceLeDiff, Nat.reduceLT, Nat.reduceEqDiff]
        · rw [ssE_f, if_neg (by omega)]
        · rw [ssE_t, if_neg (by omega)]
    · have g1 : (0 ≤ si ∧ si ≤ 1000000000000) = False := by simp only [eq_iff_iff, iff_false]; omega
      cases u <;> simp +contextual -implicitDefEqProofs only [bg_eq, a49, x107, x91, x108, x85t, x85f, g0, g1, not_true_eq_false, not_false_eq_true, ruB, rh_no, Int.reduceLT, Int.reduceLE, Int.reduceAdd, Int.reduceSub, Int.reduceMul, Int.reduceNeg, Int.reduceToNat, Int.reduceEq, Int.reduceNe, Int.reduceTDiv, Int.reduceTMod, implies_true, putL, appN, appX, Eng.Fi, reduceCtorEq, exists_eq_left', exists_eq_left, if_true, if_false, List.replicate, Nat.reduceAdd, Nat.reduceSub, Nat.reduceMul, Nat.reduceLeDiff, Nat.reduceLT, Nat.reduceEqDiff]
      · rw [ssE_f, if_neg (by omega)]
      · rw [ssE_t, if_neg (by omega)]
  · have g0 : (0 ≤ n ∧ n ≤ 62500) = False := by simp only [eq_iff_iff, iff_false]; omega
    cases u <;> simp +contextual -implicitDefEqProofs only [bg_eq, a49, x107, x91, x108, x85t, x85f, g0, not_true_eq_false, not_false_eq_true, ruB, rh_no, Int.reduceLT, Int.reduceLE, Int.reduceAdd, Int.reduceSub, Int.reduceMul, Int.reduceNeg, Int.reduceToNat, Int.reduceEq, Int.reduceNe, Int.reduceTDiv, Int.reduceTMod, implies_true, putL, appN, appX, Eng.Fi, reduceCtorEq, exists_eq_left', exists_eq_left, if_true, if_false, List.replicate, Nat.reduceAdd, Nat.reduceSub, Nat.reduceMul, Nat.reduceLeDiff, Nat.reduceLT, Nat.reduceEqDiff]
    · rw [ssE_f, if_neg (by omega)]
    · rw [ssE_t, if_neg (by omega)]
def c49f : List AV → Option AV
  | [.agg [.bool u, .int .i64 a, .int .i64 b, .int .i64 c, .int .i64 d]] => some (I (ssE ⟨u, a, b, c, d⟩))
  | _ => none
theorem g49 : Fn P 49 c49f := fun args v h => by
  unfold c49f at h; split at h
  · cases h; exact k49 ⟨_, _, _, _, _⟩
  · cases h
theorem x49 (s : St) : c49f [.agg [B s.up, I s.num, I s.since, I s.heard, I s.quiet]] = some (.int .i64 (ssE s)) := rfl
set_option maxHeartbeats 2000000 in
theorem k50 (s : St) : FOk P 50 [eS s] (I (ssE s)) := by
  refine c50.fok rfl (Cor.run (addC_good g30 (addC_good g33 (noC_good _))) (noHx_good _) hm ?_)
  obtain ⟨u, n, si, he, q⟩ := s
  by_cases h0 : (0 ≤ n ∧ n ≤ 62500)
  · have g0 : (0 ≤ n ∧ n ≤ 62500) = True := by simp only [eq_iff_iff, iff_true]; omega
    by_cases h1 : (0 ≤ si ∧ si ≤ 1000000000000)
    · have g1 : (0 ≤ si ∧ si ≤ 1000000000000) = True := by simp only [eq_iff_iff, iff_true]; omega
      by_cases h2 : (he = -1 ∨ 0 ≤ he ∧ he ≤ 1000000000000)
      · have g2 : (-1 ≤ he ∧ he ≤ 1000000000000) = True := by simp only [eq_iff_iff, iff_true]; omega
        by_cases h3 : (q = -1 ∨ 0 ≤ q ∧ q ≤ 1000000000000)
        · have g3 : (-1 ≤ q ∧ q ≤ 1000000000000) = True := by simp only [eq_iff_iff, iff_true]; omega
          cases u
          · by_cases hA : si = 0
            · have a0 : (si = 0) = True := by simp only [hA]
              by_cases hB : q = -1
              · have b0 : (q = -1) = True := by simp only [hB]
                simp +contextual -implicitDefEqProofs only [bg_eq, a50, x33, x30, g0, g1, g2, g3, a0, b0, not_true_eq_false, not_false_eq_true, ruB, rh_no, Int.reduceLT, Int.reduceLE, Int.reduceAdd, Int.reduceSub, Int.reduceMul, Int.reduceNeg, Int.reduceToNat, Int.reduceEq, Int.reduceNe, Int.reduceTDiv, Int.reduceTMod, implies_true, putL, appN, appX, Eng.Fi, reduceCtorEq, exists_eq_left', exists_eq_left, if_true, if_false, List.replicate, Nat.reduceAdd, Nat.reduceSub, Nat.reduceMul, Nat.reduceLeDiff, Nat.reduceLT, Nat.reduceEqDiff]
                rw [ssE_f, if_pos (by omega), if_pos (by omega)]
              · have b0 : (q = -1) = False := by simp only [hB]
                have p0 : (0 ≤ q ∧ q ≤ 1000000000000) = True := by simp only [eq_iff_iff, iff_true]; omega
                simp +contextual -implicitDefEqProofs only [bg_eq, a50, x33, x30, g0, g1, g2, g3, a0, b0, p0, or_true, not_true_eq_false, not_false_eq_true, ruB, rh_no, Int.reduceLT, Int.reduceLE, Int.reduceAdd, Int.reduceSub, Int.reduceMul, Int.reduceNeg, Int.reduceToNat, Int.reduceEq, Int.reduceNe, Int.reduceTDiv, Int.reduceTMod, implies_true, putL, appN, appX, Eng.Fi, reduceCtorEq, exists_eq_left', exists_eq_left, if_true, if_false, List.replicate, Nat.reduceAdd, Nat.reduceSub, Nat.reduceMul, Nat.reduceLeDiff, Nat.reduceLT, Nat.reduceEqDiff]
                rw [ssE_f, if_pos (by omega), if_neg (by omega)]
            · have a0 : (si = 0) = False := by simp only [hA]
              simp +contextual -implicitDefEqProofs only [bg_eq, a50, x33, x30, g0, g1, g2, g3, a0, not_true_eq_false, not_false_eq_true, ruB, rh_no, Int.reduceLT, Int.reduceLE, Int.reduceAdd, Int.reduceSub, Int.reduceMul, Int.reduceNeg, Int.reduceToNat, Int.reduceEq, Int.reduceNe, Int.reduceTDiv, Int.reduceTMod, implies_true, putL, appN, appX, Eng.Fi, reduceCtorEq, exists_eq_left', exists_eq_left, if_true, if_false, List.replicate, Nat.reduceAdd, Nat.reduceSub, Nat.reduceMul, Nat.reduceLeDiff, Nat.reduceLT, Nat.reduceEqDiff]
              rw [ssE_f, if_pos (by omega), if_neg (by omega)]
          · by_cases k0 : 0 < n
            · have f0 : (n = 0) = False := by simp only [eq_iff_iff, iff_false]; omega
              by_cases k1 : si ≤ he
              · have f1 : (he < si) = False := by simp only [eq_iff_iff, iff_false]; omega
                by_cases k2 : q ≤ he
                · have f2 : (he < q) = False := by simp only [eq_iff_iff, iff_false]; omega
                  by_cases hB : q = -1
                  · have b0 : (q = -1) = True := by simp only [hB]
                    simp +contextual -implicitDefEqProofs only [bg_eq, a50, x33, x30, g0, g1, g2, g3, f0, f1, f2, b0, not_true_eq_false, not_false_eq_true, ruB, rh_no, Int.reduceLT, Int.reduceLE, Int.reduceAdd, Int.reduceSub, Int.reduceMul, Int.reduceNeg, Int.reduceToNat, Int.reduceEq, Int.reduceNe, Int.reduceTDiv, Int.reduceTMod, implies_true, putL, appN, appX, Eng.Fi, reduceCtorEq, exists_eq_left', exists_eq_left, if_true, if_false, List.replicate, Nat.reduceAdd, Nat.reduceSub, Nat.reduceMul, Nat.reduceLeDiff, Nat.reduceLT, Nat.reduceEqDiff]
                    rw [ssE_t, if_pos (by omega), if_pos (by omega)]
                  · have b0 : (q = -1) = False := by simp only [hB]
                    have p0 : (0 ≤ q ∧ q ≤ 1000000000000) = True := by simp only [eq_iff_iff, iff_true]; omega
                    by_cases hC : si ≤ q
                    · have c0 : (q < si) = False := by simp only [eq_iff_iff, iff_false]; omega
                      simp +contextual -implicitDefEqProofs only [bg_eq, a50, x33, x30, g0, g1, g2, g3, f0, f1, f2, b0, p0, or_true, c0, not_true_eq_false, not_false_eq_true, ruB, rh_no, Int.reduceLT, Int.reduceLE, Int.reduceAdd, Int.reduceSub, Int.reduceMul, Int.reduceNeg, Int.reduceToNat, Int.reduceEq, Int.reduceNe, Int.reduceTDiv, Int.reduceTMod, implies_true, putL, appN, appX, Eng.Fi, reduceCtorEq, exists_eq_left', exists_eq_left, if_true, if_false, List.replicate, Nat.reduceAdd, Nat.reduceSub, Nat.reduceMul, Nat.reduceLeDiff, Nat.reduceLT, Nat.reduceEqDiff]
                      rw [ssE_t, if_pos (by omega), if_pos (by omega)]
                    · have c0 : (q < si) = True := by simp only [eq_iff_iff, iff_true]; omega
                      simp +contextual -implicitDefEqProofs only [bg_eq, a50, x33, x30, g0, g1, g2, g3, f0, f1, f2, b0, p0, or_true, c0, not_true_eq_false, not_false_eq_true, ruB, rh_no, Int.reduceLT, Int.reduceLE, Int.reduceAdd, Int.reduceSub, Int.reduceMul, Int.reduceNeg, Int.reduceToNat, Int.reduceEq, Int.reduceNe, Int.reduceTDiv, Int.reduceTMod, implies_true, putL, appN, appX, Eng.Fi, reduceCtorEq, exists_eq_left', exists_eq_left, if_true, if_false, List.replicate, Nat.reduceAdd, Nat.reduceSub, Nat.reduceMul, Nat.reduceLeDiff, Nat.reduceLT, Nat.reduceEqDiff]
                      rw [ssE_t, if_pos (by omega), if_neg (by omega)]
                · have f2 : (he < q) = True := by simp only [eq_iff_iff, iff_true]; omega
                  simp +contextual -implicitDefEqProofs only [bg_eq, a50, x33, x30, g0, g1, g2, g3, f0, f1, f2, not_true_eq_false, not_false_eq_true, ruB, rh_no, Int.reduceLT, Int.reduceLE, Int.reduceAdd, Int.reduceSub, Int.reduceMul, Int.reduceNeg, Int.reduceToNat, Int.reduceEq, Int.reduceNe, Int.reduceTDiv, Int.reduceTMod, implies_true, putL, appN, appX, Eng.Fi, reduceCtorEq, exists_eq_left', exists_eq_left, if_true, if_false, List.replicate, Nat.reduceAdd, Nat.reduceSub, Nat.reduceMul, Nat.reduceLeDiff, Nat.reduceLT, Nat.reduceEqDiff]
                  rw [ssE_t, if_pos (by omega), if_neg (by omega)]
              · have f1 : (he < si) = True := by simp only [eq_iff_iff, iff_true]; omega
                simp +contextual -implicitDefEqProofs only [bg_eq, a50, x33, x30, g0, g1, g2, g3, f0, f1, not_true_eq_false, not_false_eq_true, ruB, rh_no, Int.reduceLT, Int.reduceLE, Int.reduceAdd, Int.reduceSub, Int.reduceMul, Int.reduceNeg, Int.reduceToNat, Int.reduceEq, Int.reduceNe, Int.reduceTDiv, Int.reduceTMod, implies_true, putL, appN, appX, Eng.Fi, reduceCtorEq, exists_eq_left', exists_eq_left, if_true, if_false, List.replicate, Nat.reduceAdd, Nat.reduceSub, Nat.reduceMul, Nat.reduceLeDiff, Nat.reduceLT, Nat.reduceEqDiff]
                rw [ssE_t, if_pos (by omega), if_neg (by omega)]
            · have f0 : (n = 0) = True := by simp only [eq_iff_iff, iff_true]; omega
              simp +contextual -implicitDefEqProofs only [bg_eq, a50, x33, x30, g0, g1, g2, g3, f0, not_true_eq_false, not_false_eq_true, ruB, rh_no, Int.reduceLT, Int.reduceLE, Int.reduceAdd, Int.reduceSub, Int.reduceMul, Int.reduceNeg, Int.reduceToNat, Int.reduceEq, Int.reduceNe, Int.reduceTDiv, Int.reduceTMod, implies_true, putL, appN, appX, Eng.Fi, reduceCtorEq, exists_eq_left', exists_eq_left, if_true, if_false, List.replicate, Nat.reduceAdd, Nat.reduceSub, Nat.reduceMul, Nat.reduceLeDiff, Nat.reduceLT, Nat.reduceEqDiff]
              rw [ssE_t, if_pos (by omega), if_neg (by omega)]
        · have g3 : (-1 ≤ q ∧ q ≤ 1000000000000) = False := by simp only [eq_iff_iff, iff_false]; omega
          cases u <;> simp +contextual -implicitDefEqProofs only [bg_eq, a50, x33, x30, g0, g1, g2, g3, not_true_eq_false, not_false_eq_true, ruB, rh_no, Int.reduceLT, Int.reduceLE, Int.reduceAdd, Int.reduceSub, Int.reduceMul, Int.reduceNeg, Int.reduceToNat, Int.reduceEq, Int.reduceNe, Int.reduceTDiv, Int.reduceTMod, implies_true, putL, appN, appX, Eng.Fi, reduceCtorEq, exists_eq_left', exists_eq_left, if_true, if_false, List.replicate, Nat.reduceAdd, Nat.reduceSub, Nat.reduceMul, Nat.reduceLeDiff, Nat.reduceLT, Nat.reduceEqDiff]
          · rw [ssE_f, if_neg (by omega)]
          · rw [ssE_t, if_neg (by omega)]
      · have g2 : (-1 ≤ he ∧ he ≤ 1000000000000) = False := by simp only [eq_iff_iff, iff_false]; omega
        cases u <;> simp +contextual -implicitDefEqProofs only [bg_eq, a50, x33, x30, g0, g1, g2, not_true_eq_false, not_false_eq_true, ruB, rh_no, Int.reduceLT, Int.reduceLE, Int.reduceAdd, Int.reduceSub, Int.reduceMul, Int.reduceNeg, Int.reduceToNat, Int.reduceEq, Int.reduceNe, Int.reduceTDiv, Int.reduceTMod, implies_true, putL, appN, appX, Eng.Fi, reduceCtorEq, exists_eq_left', exists_eq_left, if_true, if_false, List.replicate, Nat.reduceAdd, Nat.reduceSub, Nat.reduceMul, Nat.reduceLeDiff, Nat.reduceLT, Nat.reduceEqDiff]
        · rw [ssE_f, if_neg (by omega)]
        · rw [ssE_t, if_neg (by omega)]
    · have g1 : (0 ≤ si ∧ si ≤ 1000000000000) = False := by simp only [eq_iff_iff, iff_false]; omega
      cases u <;> simp +contextual -implicitDefEqProofs only [bg_eq, a50, x33, x30, g0, g1, not_true_eq_false, not_false_eq_true, ruB, rh_no, Int.reduceLT, Int.reduceLE, Int.reduceAdd, Int.reduceSub, Int.reduceMul, Int.reduceNeg, Int.reduceToNat, Int.reduceEq, Int.reduceNe, Int.reduceTDiv, Int.reduceTMod, implies_true, putL, appN, appX, Eng.Fi, reduceCtorEq, exists_eq_left', exists_eq_left, if_true, if_false, List.replicate, Nat.reduceAdd, Nat.reduceSub, Nat.reduceMul, Nat.reduceLeDiff, Nat.reduceLT, Nat.reduceEqDiff]
      · rw [ssE_f, if_neg (by omega)]
      · rw [ssE_t, if_neg (by omega)]
  · have g0 : (0 ≤ n ∧ n ≤ 62500) = False := by simp only [eq_iff_iff, iff_false]; omega
    cases u <;> simp +contextual -implicitDefEqProofs only [bg_eq, a50, x33, x30, g0, not_true_eq_false, not_false_eq_true, ruB, rh_no, Int.reduceLT, Int.reduceLE, Int.reduceAdd, Int.reduceSub, Int.reduceMul, Int.reduceNeg, Int.reduceToNat, Int.reduceEq, Int.reduceNe, Int.reduceTDiv, Int.reduceTMod, implies_true, putL, appN, appX, Eng.Fi, reduceCtorEq, exists_eq_left', exists_eq_left, if_true, if_false, List.replicate, Nat.reduceAdd, Nat.reduceSub, Nat.reduceMul, Nat.reduceLeDiff, Nat.reduceLT, Nat.reduceEqDiff]
    · rw [ssE_f, if_neg (by omega)]
    · rw [ssE_t, if_neg (by omega)]
def c50f : List AV → Option AV
  | [.agg [.bool u, .int .i64 a, .int .i64 b, .int .i64 c, .int .i64 d]] => some (I (ssE ⟨u, a, b, c, d⟩))
  | _ => none
theorem g50 : Fn P 50 c50f := fun args v h => by
  unfold c50f at h; split at h
  · cases h; exact k50 ⟨_, _, _, _, _⟩
  · cases h
theorem x50 (s : St) : c50f [.agg [B s.up, I s.num, I s.since, I s.heard, I s.quiet]] = some (.int .i64 (ssE s)) := rfl

def nexE (r : Rl) (s : St) (e : Gt) : Int := firstE [rlE r, ssE s, evE e, unl (s.heard < e.at') 9]
def nextL (r : Rl) (s : St) (e : Gt) : St × Int := if nexE r s e = 0 then (if (hearS r s e).2 = 0 then hearS r s e else (zS, (hearS r s e).2)) else (zS, nexE r s e)
end Sh
