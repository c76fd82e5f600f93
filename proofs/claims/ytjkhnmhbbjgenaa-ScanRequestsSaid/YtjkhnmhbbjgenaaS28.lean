import Derived.Test.YtjkhnmhbbjgenaaEngS9
import Derived.Test.YtjkhnmhbbjgenaaS27
open Go Go.Proofs Eng
set_option maxRecDepth 100000
set_option linter.unusedSimpArgs false
set_option linter.unusedVariables false
def a81 : AC := .seq (.ops false [] [⟨some 4, .p (.mov), [.c (.int .i64 0)], none⟩, ⟨some 5, .p (.mov), [.c (.int .i64 0)], none⟩]) (.seq (.seq (.ops false [] [⟨some 8, .p (.mov), [.t 0], none⟩, ⟨some 9, .p (.lenS), [.t 8], none⟩, ⟨some 10, .p (.binI .eql), [.t 9, .c (.int .i64 0)], none⟩]) (.cond (.t 10) (.seq (.ops false [] [⟨some 4, .p (.mov), [.c (.int .i64 0)], none⟩, ⟨some 5, .p (.mov), [.c (.int .i64 10)], none⟩]) (.ret)) (.skip))) (.seq (.seq (.ops false [] [⟨some 11, .p (.mov), [.t 0], none⟩, ⟨some 12, .p (.lenS), [.t 11], none⟩, ⟨some 13, .p (.binI .gtr), [.t 12, .c (.int .i64 10)], none⟩]) (.cond (.t 13) (.seq (.ops false [] [⟨some 4, .p (.mov), [.c (.int .i64 0)], none⟩, ⟨some 5, .p (.mov), [.c (.int .i64 8)], none⟩]) (.ret)) (.skip))) (.seq (.seq (.ops false [] [⟨some 6, .p (.mov), [.c (.int .i64 0)], none⟩]) (.block 0 (.loop (.seq (.seq (.ops false [] [⟨some 14, .p (.mov), [.t 6], none⟩, ⟨some 15, .p (.mov), [.t 0], none⟩, ⟨some 16, .p (.lenS), [.t 15], none⟩, ⟨some 17, .p (.binI .lss), [.t 14, .t 16], none⟩]) (.cond (.t 17) (.skip) (.exit 0))) (.seq (.block 1 (.seq (.ops false [] [⟨some 20, .p (.mov), [.t 0], none⟩, ⟨some 21, .p (.mov), [.t 6], none⟩, ⟨some 22, .p (.iaddrS 8), [.t 20, .t 21], none⟩, ⟨some 23, .load 8 true, [.t 22], none⟩, ⟨some 24, .p (.mov), [.t 1], none⟩, ⟨some 25, .call 120, [.t 23, .t 24], none⟩, ⟨some 7, .p (.mov), [.t 25], none⟩]) (.seq (.ops false [] [⟨some 26, .p (.mov), [.t 7], none⟩, ⟨some 27, .p (.binI .neq), [.t 26, .c (.int .i64 0)], none⟩]) (.cond (.t 27) (.seq (.ops false [] [⟨some 28, .p (.mov), [.t 6], none⟩, ⟨some 29, .p (.mov), [.t 7], none⟩, ⟨some 4, .p (.mov), [.t 28], none⟩, ⟨some 5, .p (.mov), [.t 29], none⟩]) (.ret)) (.skip))))) (.ops false [] [⟨some 18, .p (.mov), [.t 6], none⟩, ⟨some 19, .p (.binI .add), [.t 18, .c (.int .i64 1)], none⟩, ⟨some 6, .p (.mov), [.t 19], none⟩])))))) (.seq (.ops false [] [⟨some 4, .p (.mov), [.c (.int .i64 0)], none⟩, ⟨some 5, .p (.mov), [.c (.int .i64 0)], none⟩]) (.ret)))))
theorem c81 : FnC Try.prog 81 30 a81 [.tmp 4, .tmp 5] := ⟨Try.call81, _, _, Try.func81, rfl, by kernel_rfl, by kernel_rfl, rfl⟩
def a120 : AC := .seq (.ops false [] [⟨some 2, .box 73 8 1 true, [.t 0], none⟩, ⟨some 4, .p (.mov), [.c (.int .i64 0)], none⟩]) (.seq (.seq (.ops false [] [⟨some 7, .p (.faddr 0), [.t 2], none⟩, ⟨some 8, .load 1 false, [.t 7], none⟩, ⟨some 9, .call 38, [.t 8, .c (.int .i64 0), .c (.int .i64 2)], none⟩, ⟨some 10, .p (.notB), [.t 9], none⟩]) (.cond (.t 10) (.seq (.ops false [] [⟨some 4, .p (.mov), [.c (.int .i64 14)], none⟩]) (.ret)) (.skip))) (.seq (.seq (.ops false [] [⟨some 11, .p (.faddr 0), [.t 2], none⟩, ⟨some 12, .load 1 false, [.t 11], none⟩, ⟨some 13, .p (.binI .eql), [.t 12, .c (.int .i64 2)], none⟩]) (.cond (.t 13) (.seq (.seq (.ops false [] [⟨some 14, .p (.faddr 1), [.t 2], none⟩, ⟨some 15, .load 2 true, [.t 14], none⟩, ⟨some 16, .p (.build [.int .i64 0, .int .i64 0] []), [], none⟩, ⟨some 17, .p (.eqa true [.i, .i]), [.t 15, .t 16], none⟩, ⟨some 18, .p (.mov), [.t 17], none⟩, ⟨some 19, .p (.faddr 3), [.t 2], some (18, false)⟩, ⟨some 20, .load 1 false, [.t 19], some (18, false)⟩, ⟨some 21, .p (.binI .neq), [.t 20, .c (.int .i64 0)], some (18, false)⟩, ⟨some 22, .p (.pick), [.t 18, .c (.bool true), .t 21], none⟩, ⟨some 23, .p (.mov), [.t 22], none⟩, ⟨some 24, .p (.faddr 4), [.t 2], some (23, false)⟩, ⟨some 25, .load 1 false, [.t 24], some (23, false)⟩, ⟨some 26, .p (.binI .neq), [.t 25, .c (.int .i64 0)], some (23, false)⟩, ⟨some 27, .p (.pick), [.t 23, .c (.bool true), .t 26], none⟩, ⟨some 28, .p (.mov), [.t 27], none⟩, ⟨some 29, .p (.faddr 5), [.t 2], some (28, false)⟩, ⟨some 30, .load 1 false, [.t 29], some (28, false)⟩, ⟨some 31, .p (.binI .neq), [.t 30, .c (.int .i64 0)], some (28, false)⟩, ⟨some 32, .p (.pick), [.t 28, .c (.bool true), .t 31], none⟩]) (.cond (.t 32) (.seq (.ops false [] [⟨some 4, .p (.mov), [.c (.int .i64 3)], none⟩]) (.ret)) (.skip))) (.seq (.seq (.ops false [] [⟨some 33, .p (.faddr 6), [.t 2], none⟩, ⟨some 34, .load 1 false, [.t 33], none⟩, ⟨some 35, .call 38, [.t 34, .c (.int .i64 1), .c (.int .i64 10)], none⟩, ⟨some 36, .p (.notB), [.t 35], none⟩]) (.cond (.t 36) (.seq (.ops false [] [⟨some 4, .p (.mov), [.c (.int .i64 2)], none⟩]) (.ret)) (.skip))) (.seq (.seq (.ops false [] [⟨some 37, .p (.mov), [.t 1], none⟩, ⟨some 38, .p (.binI .geq), [.t 37, .c (.int .i64 2)], none⟩]) (.cond (.t 38) (.seq (.ops false [] [⟨some 4, .p (.mov), [.c (.int .i64 15)], none⟩]) (.ret)) (.skip))) (.seq (.ops false [] [⟨some 40, .p (.faddr 7), [.t 2], none⟩, ⟨some 41, .load 1 false, [.t 40], none⟩, ⟨some 42, .p (.mov), [.t 1], none⟩, ⟨some 43, .p (.binI .add), [.t 42, .c (.int .i64 1)], none⟩, ⟨some 44, .call 81, [.t 41, .t 43], none⟩, ⟨some 39, .p (.mov), [.t 44], none⟩, ⟨some 45, .p (.ext 0), [.t 39], none⟩, ⟨some 46, .p (.ext 1), [.t 39], none⟩, ⟨some 5, .p (.mov), [.t 45], none⟩, ⟨some 6, .p (.mov), [.t 46], none⟩]) (.seq (.ops false [] [⟨some 47, .p (.mov), [.t 6], none⟩, ⟨some 4, .p (.mov), [.t 47], none⟩]) (.ret)))))) (.skip))) (.seq (.seq (.ops false [] [⟨some 48, .p (.faddr 6), [.t 2], none⟩, ⟨some 49, .load 1 false, [.t 48], none⟩, ⟨some 50, .p (.binI .neq), [.t 49, .c (.int .i64 0)], none⟩, ⟨some 51, .p (.mov), [.t 50], none⟩, ⟨some 52, .p (.faddr 7), [.t 2], some (51, false)⟩, ⟨some 53, .load 1 false, [.t 52], some (51, false)⟩, ⟨some 54, .p (.lenS), [.t 53], some (51, false)⟩, ⟨some 55, .p (.binI .neq), [.t 54, .c (.int .i64 0)], some (51, false)⟩, ⟨some 56, .p (.pick), [.t 51, .c (.bool true), .t 55], none⟩, ⟨some 57, .p (.mov), [.t 56], none⟩, ⟨some 58, .p (.faddr 0), [.t 2], some (57, false)⟩, ⟨some 59, .load 1 false, [.t 58], some (57, false)⟩, ⟨some 60, .p (.binI .eql), [.t 59, .c (.int .i64 0)], some (57, false)⟩, ⟨some 61, .p (.mov), [.t 60], some (57, false)⟩, ⟨some 62, .p (.faddr 3), [.t 2], some (61, true)⟩, ⟨some 63, .load 1 false, [.t 62], some (61, true)⟩, ⟨some 64, .p (.binI .neq), [.t 63, .c (.int .i64 0)], some (61, true)⟩, ⟨some 65, .p (.mov), [.t 64], some (61, true)⟩, ⟨some 66, .p (.faddr 4), [.t 2], some (65, false)⟩, ⟨some 67, .load 1 false, [.t 66], some (65, false)⟩, ⟨some 68, .p (.binI .neq), [.t 67, .c (.int .i64 0)], some (65, false)⟩, ⟨some 69, .p (.pick), [.t 65, .c (.bool true), .t 68], some (61, true)⟩, ⟨some 70, .p (.pick), [.t 61, .t 69, .c (.bool false)], some (57, false)⟩, ⟨some 71, .p (.pick), [.t 57, .c (.bool true), .t 70], none⟩]) (.cond (.t 71) (.seq (.ops false [] [⟨some 4, .p (.mov), [.c (.int .i64 3)], none⟩]) (.ret)) (.skip))) (.seq (.seq (.ops false [] [⟨some 72, .p (.faddr 1), [.t 2], none⟩, ⟨some 73, .load 2 true, [.t 72], none⟩, ⟨some 74, .call 44, [.t 73], none⟩, ⟨some 75, .p (.binI .neq), [.t 74, .c (.int .i64 0)], none⟩, ⟨some 76, .p (.mov), [.t 75], none⟩, ⟨some 77, .p (.faddr 5), [.t 2], some (76, false)⟩, ⟨some 78, .load 1 false, [.t 77], some (76, false)⟩, ⟨some 79, .call 38, [.t 78, .c (.int .i64 0), .c (.int .i64 1000)], some (76, false)⟩, ⟨some 80, .p (.notB), [.t 79], some (76, false)⟩, ⟨some 81, .p (.pick), [.t 76, .c (.bool true), .t 80], none⟩]) (.cond (.t 81) (.seq (.ops false [] [⟨some 4, .p (.mov), [.c (.int .i64 2)], none⟩]) (.ret)) (.skip))) (.seq (.seq (.ops false [] [⟨some 82, .p (.faddr 0), [.t 2], none⟩, ⟨some 83, .load 1 false, [.t 82], none⟩, ⟨some 84, .p (.binI .eql), [.t 83, .c (.int .i64 1)], none⟩, ⟨some 85, .p (.mov), [.t 84], none⟩, ⟨some 86, .p (.faddr 3), [.t 2], some (85, true)⟩, ⟨some 87, .load 1 false, [.t 86], some (85, true)⟩, ⟨some 88, .call 38, [.t 87, .c (.int .i64 0), .c (.int .i64 359)], some (85, true)⟩, ⟨some 89, .p (.notB), [.t 88], some (85, true)⟩, ⟨some 90, .p (.mov), [.t 89], some (85, true)⟩, ⟨some 91, .p (.faddr 4), [.t 2], some (90, false)⟩, ⟨some 92, .load 1 false, [.t 91], some (90, false)⟩, ⟨some 93, .call 38, [.t 92, .c (.int .i64 1), .c (.int .i64 360)], some (90, false)⟩, ⟨some 94, .p (.notB), [.t 93], some (90, false)⟩, ⟨some 95, .p (.pick), [.t 90, .c (.bool true), .t 94], some (85, true)⟩, ⟨some 96, .p (.pick), [.t 85, .t 95, .c (.bool false)], none⟩]) (.cond (.t 96) (.seq (.ops false [] [⟨some 4, .p (.mov), [.c (.int .i64 2)], none⟩]) (.ret)) (.skip))) (.seq (.ops false [] [⟨some 4, .p (.mov), [.c (.int .i64 0)], none⟩]) (.ret)))))))
theorem c120 : FnC Try.prog 120 97 a120 [.tmp 4] := ⟨Try.call120, _, _, Try.func120, rfl, by kernel_rfl, by kernel_rfl, rfl⟩
namespace Sc
noncomputable def cf_rStepErr (n : Nat) : List AV → Option AV
  | [v, .int .i64 d] => if d + n = 2 then onSp v fun s => some (I (stE n s)) else none
  | _ => none
noncomputable def cf_rListErr (n : Nat) : List AV → Option AV
  | [v, .int .i64 d] => if d + n = 2 then onSps v fun s => some (.tup [I (stCh (stE n) s).1, I (stCh (stE n) s).2]) else none
  | _ => none
theorem x_rStepErr (n : Nat) (s : Sp) (d : Int) (h : (d + n = 2) = True) : cf_rStepErr n [eSp s, .int .i64 d] = some (I (stE n s)) := by
  simp only [cf_rStepErr, h, if_true, onSp_e]
theorem x_rListErr (n : Nat) (l : Sps) (d : Int) (h : (d + n = 2) = True) : cf_rListErr n [.vs (eSps l), .int .i64 d] = some (.tup [I (stCh (stE n) l).1, I (stCh (stE n) l).2]) := by
  simp only [cf_rListErr, h, if_true]
  exact onSps_e l _
/-- what stands behind a right repeat -/
def stR2 : Nat → Sp → Int
  | 0, _ => 15
  | n + 1, s => (stCh (stE n) s.body).2
theorem stE_cases (n : Nat) (s : Sp) : stE n s = if 0 ≤ s.k ∧ s.k ≤ 2 then (if frE s = 0 ∧ s.k = 2 then stR2 n s else frE s) else 14 := by
  cases n <;> rfl
theorem dr0 (d : Dr) : d = (⟨0, 0⟩ : Dr) ↔ (d.az = 0 ∧ d.el = 0) := by cases d; simp
theorem frE_def (s : Sp) : frE s = if fmE s = 0 then (if rgE s = 0 then 0 else rgE s) else fmE s := rfl
theorem fr2 {s : Sp} (h : s.k = 2) : frE s = if s.at'.az = 0 ∧ s.at'.el = 0 ∧ s.x2 = 0 ∧ s.x3 = 0 ∧ s.x4 = 0 then (if 1 ≤ s.x5 ∧ s.x5 ≤ 10 then 0 else 2) else 3 := by
  have hf : fmE s = unl (((s.at' = (⟨0, 0⟩ : Dr) ∧ s.x2 = 0) ∧ s.x3 = 0) ∧ s.x4 = 0) 3 := by rw [fmE, if_neg (by omega), if_neg (by omega)]
  have hr : rgE s = unl (1 ≤ s.x5 ∧ s.x5 ≤ 10) 2 := by rw [rgE, if_pos h]
  have hd := dr0 s.at'
  rw [frE_def, hf, hr]
  by_cases h1 : s.at'.az = 0 ∧ s.at'.el = 0 ∧ s.x2 = 0 ∧ s.x3 = 0 ∧ s.x4 = 0
  · rw [if_pos h1, unl_t 3 ⟨⟨⟨hd.2 ⟨h1.1, h1.2.1⟩, h1.2.2.1⟩, h1.2.2.2.1⟩, h1.2.2.2.2⟩, if_pos rfl]
    by_cases h2 : 1 ≤ s.x5 ∧ s.x5 ≤ 10
    · rw [if_pos h2, unl_t 2 h2, if_pos rfl]
    · rw [if_neg h2, unl_f 2 h2]; rfl
  · rw [if_neg h1, unl_f 3 (fun q => h1 ⟨(hd.1 q.1.1.1).1, (hd.1 q.1.1.1).2, q.1.1.2, q.1.2, q.2⟩)]; rfl
theorem fr0 {s : Sp} (h : s.k = 0) : frE s = if s.x5 = 0 ∧ (s.body.length : Int) = 0 ∧ s.x2 = 0 ∧ s.x3 = 0 then (if drE s.at' = 0 ∧ (0 ≤ s.x4 ∧ s.x4 ≤ 1000) then 0 else 2) else 3 := by
  have hf : fmE s = unl ((noB s ∧ s.x2 = 0) ∧ s.x3 = 0) 3 := by rw [fmE, if_pos h]
  have hr : rgE s = unl (dtR s) 2 := by rw [rgE, if_neg (by omega), if_neg (by omega)]
  rw [frE_def, hf, hr]
  by_cases h1 : s.x5 = 0 ∧ (s.body.length : Int) = 0 ∧ s.x2 = 0 ∧ s.x3 = 0
  · rw [if_pos h1, unl_t 3 ⟨⟨⟨h1.1, h1.2.1⟩, h1.2.2.1⟩, h1.2.2.2⟩, if_pos rfl]
    by_cases h2 : drE s.at' = 0 ∧ (0 ≤ s.x4 ∧ s.x4 ≤ 1000)
    · rw [if_pos h2, unl_t 2 h2, if_pos rfl]
    · rw [if_neg h2, unl_f 2 h2]; rfl
  · rw [if_neg h1, unl_f 3 (fun q => h1 ⟨q.1.1.1, q.1.1.2, q.1.2, q.2⟩)]; rfl
theorem fr1 {s : Sp} (h : s.k = 1) : frE s = if s.x5 = 0 ∧ (s.body.length : Int) = 0 then (if (drE s.at' = 0 ∧ (0 ≤ s.x4 ∧ s.x4 ≤ 1000)) ∧ azR s.x2 ∧ (1 ≤ s.x3 ∧ s.x3 ≤ 360) then 0 else 2) else 3 := by
  have hf : fmE s = unl (noB s) 3 := by rw [fmE, if_neg (by omega), if_pos h]
  have hr : rgE s = unl ((dtR s ∧ azR s.x2) ∧ (1 ≤ s.x3 ∧ s.x3 ≤ 360)) 2 := by rw [rgE, if_neg (by omega), if_pos h]
  rw [frE_def, hf, hr]
  by_cases h1 : s.x5 = 0 ∧ (s.body.length : Int) = 0
  · rw [if_pos h1, unl_t 3 h1, if_pos rfl]
    by_cases h2 : (drE s.at' = 0 ∧ (0 ≤ s.x4 ∧ s.x4 ≤ 1000)) ∧ azR s.x2 ∧ (1 ≤ s.x3 ∧ s.x3 ≤ 360)
    · rw [if_pos h2, unl_t 2 ⟨⟨h2.1, h2.2.1⟩, h2.2.2⟩, if_pos rfl]
    · rw [if_neg h2, unl_f 2 (fun q => h2 ⟨q.1.1, q.1.2, q.2⟩)]; rfl
  · rw [if_neg h1, unl_f 3 h1]; rfl
theorem k_rStepErrG (n : Nat) (hn2 : n ≤ 2) (d : Int) (cs : Ctx) (hcs : Good P cs) (s : Sp) (hd : d + n = 2) (c38 : ∀ n lo hi : Int, cs 38 [.int .i64 n, .int .i64 lo, .int .i64 hi] = some (.bool (decide (lo ≤ n ∧ n ≤ hi)))) (c44 : ∀ a e : Int, cs 44 [.agg [.int .i64 a, .int .i64 e]] = some (.int .i64 (drE ⟨a, e⟩)))
    (cL : n = 0 ∨ ∃ i : Int, cs 81 [.vs (eSps s.body), .int .i64 (d + 1)] = some (.tup [I i, I (stR2 n s)])) : FOk P 120 [eSp s, I d] (I (stE n s)) := by
  obtain ⟨k, ⟨az, el⟩, x2, x3, x4, x5, b⟩ := s
  have hc : stE n (.mk k ⟨az, el⟩ x2 x3 x4 x5 b) = if 0 ≤ k ∧ k ≤ 2 then (if frE (.mk k ⟨az, el⟩ x2 x3 x4 x5 b) = 0 ∧ k = 2 then stR2 n (.mk k ⟨az, el⟩ x2 x3 x4 x5 b) else frE (.mk k ⟨az, el⟩ x2 x3 x4 x5 b)) else 14 := stE_cases n _
  have h2 : k = 2 → frE (.mk k ⟨az, el⟩ x2 x3 x4 x5 b) = if az = 0 ∧ el = 0 ∧ x2 = 0 ∧ x3 = 0 ∧ x4 = 0 then (if 1 ≤ x5 ∧ x5 ≤ 10 then 0 else 2) else 3 := fun h => fr2 (s := .mk k ⟨az, el⟩ x2 x3 x4 x5 b) h
  have h0 : k = 0 → frE (.mk k ⟨az, el⟩ x2 x3 x4 x5 b) = if x5 = 0 ∧ (b.length : Int) = 0 ∧ x2 = 0 ∧ x3 = 0 then (if drE ⟨az, el⟩ = 0 ∧ (0 ≤ x4 ∧ x4 ≤ 1000) then 0 else 2) else 3 := fun h => fr0 (s := .mk k ⟨az, el⟩ x2 x3 x4 x5 b) h
  have h1 : k = 1 → frE (.mk k ⟨az, el⟩ x2 x3 x4 x5 b) = if x5 = 0 ∧ (b.length : Int) = 0 then (if (drE ⟨az, el⟩ = 0 ∧ (0 ≤ x4 ∧ x4 ≤ 1000)) ∧ azR x2 ∧ (1 ≤ x3 ∧ x3 ≤ 360) then 0 else 2) else 3 := fun h => fr1 (s := .mk k ⟨az, el⟩ x2 x3 x4 x5 b) h
  have cL : n = 0 ∨ ∃ i : Int, cs 81 [.vs (eSps b), .int .i64 (d + 1)] = some (.tup [I i, I (stR2 n (.mk k ⟨az, el⟩ x2 x3 x4 x5 b))]) := cL
  by_cases hk : 0 ≤ k ∧ k ≤ 2
  · rw [if_pos hk] at hc
    by_cases k2 : k = 2
    · subst k2
      have h2 := h2 rfl
      by_cases q1 : az = 0 ∧ el = 0 ∧ x2 = 0 ∧ x3 = 0 ∧ x4 = 0
      · rw [if_pos q1] at h2
        obtain ⟨rfl, rfl, rfl, rfl, rfl⟩ := q1
        by_cases q2 : 1 ≤ x5 ∧ x5 ≤ 10
        · rw [if_pos q2] at h2
          rw [if_pos ⟨h2, rfl⟩] at hc
          rw [hc]
          cases n with
          | zero =>
            obtain rfl : d = 2 := by omega
            refine c120.fok (by simp only [eSp, subs, sub1, free_Sps]) (Cor.run hcs (noHx_good _) hm ?_)
            simp +contextual -implicitDefEqProofs (maxSteps := 2000000) only [bg_eq, a120, eSp, c38, c44, q2, eSps_len, and_self, not_true_eq_false, ruB, rh_no, Int.reduceLT, Int.reduceLE, Int.reduceAdd, Int.reduceSub, Int.reduceMul, Int.reduceNeg, Int.reduceToNat, Int.reduceEq, Int.reduceNe, Int.reduceTDiv, Int.reduceTMod, implies_true, putL, appN, appX, appC, Eng.Fi, reduceCtorEq, exists_eq_left', exists_eq_left, if_true, if_false, List.replicate, Nat.reduceAdd, Nat.reduceSub, Nat.reduceMul, Nat.reduceLeDiff, Nat.reduceLT, Nat.reduceEqDiff]
            rfl
          | succ n =>
            obtain ⟨i, cL⟩ := cL.resolve_left (Nat.succ_ne_zero n)
            have d2 : (2 ≤ d) = False := by simp only [eq_iff_iff, iff_false]; omega
            have w : IntKind.wrap .i64 (d + 1) = d + 1 := wrap64 (by omega) (by omega)
            refine c120.fok (by simp only [eSp, subs, sub1, free_Sps]) (Cor.run hcs (noHx_good _) hm ?_)
            simp +contextual -implicitDefEqProofs (maxSteps := 2000000) only [bg_eq, a120, eSp, c38, c44, q2, d2, w, cL, eSps_len, and_self, not_true_eq_false, ruB, rh_no, Int.reduceLT, Int.reduceLE, Int.reduceAdd, Int.reduceSub, Int.reduceMul, Int.reduceNeg, Int.reduceToNat, Int.reduceEq, Int.reduceNe, Int.reduceTDiv, Int.reduceTMod, implies_true, putL, appN, appX, appC, Eng.Fi, reduceCtorEq, exists_eq_left', exists_eq_left, if_true, if_false, List.replicate, Nat.reduceAdd, Nat.reduceSub, Nat.reduceMul, Nat.reduceLeDiff, Nat.reduceLT, Nat.reduceEqDiff]
        · rw [if_neg q2] at h2
          rw [h2, if_neg (by simp)] at hc
          rw [hc]
          refine c120.fok (by simp only [eSp, subs, sub1, free_Sps]) (Cor.run hcs (noHx_good _) hm ?_)
          simp +contextual -implicitDefEqProofs (maxSteps := 2000000) only [bg_eq, a120, eSp, c38, c44, q2, eSps_len, and_self, not_true_eq_false, not_false_eq_true, ruB, rh_no, Int.reduceLT, Int.reduceLE, Int.reduceAdd, Int.reduceSub, Int.reduceMul, Int.reduceNeg, Int.reduceToNat, Int.reduceEq, Int.reduceNe, Int.reduceTDiv, Int.reduceTMod, implies_true, putL, appN, appX, appC, Eng.Fi, reduceCtorEq, exists_eq_left', exists_eq_left, if_true, if_false, List.replicate, Nat.reduceAdd, Nat.reduceSub, Nat.reduceMul, Nat.reduceLeDiff, Nat.reduceLT, Nat.reduceEqDiff]
      · rw [if_neg q1] at h2
        rw [h2, if_neg (by simp)] at hc
        rw [hc]
        have q1' : ((((¬ (az = 0 ∧ el = 0)) ∨ ¬ x2 = 0) ∨ ¬ x3 = 0) ∨ ¬ x4 = 0) = True := by simp only [eq_iff_iff, iff_true]; omega
        refine c120.fok (by simp only [eSp, subs, sub1, free_Sps]) (Cor.run hcs (noHx_good _) hm ?_)
        simp +contextual -implicitDefEqProofs (maxSteps := 2000000) only [bg_eq, a120, eSp, c38, c44, q1', eSps_len, and_self, not_true_eq_false, not_false_eq_true, ruB, rh_no, Int.reduceLT, Int.reduceLE, Int.reduceAdd, Int.reduceSub, Int.reduceMul, Int.reduceNeg, Int.reduceToNat, Int.reduceEq, Int.reduceNe, Int.reduceTDiv, Int.reduceTMod, implies_true, putL, appN, appX, appC, Eng.Fi, reduceCtorEq, exists_eq_left', exists_eq_left, if_true, if_false, List.replicate, Nat.reduceAdd, Nat.reduceSub, Nat.reduceMul, Nat.reduceLeDiff, Nat.reduceLT, Nat.reduceEqDiff]
    · rw [if_neg (fun e => k2 e.2)] at hc
      rw [hc]
      by_cases k0 : k = 0
      · subst k0
        have h0 := h0 rfl
        rw [h0]
        by_cases q1 : x5 = 0 ∧ (b.length : Int) = 0 ∧ x2 = 0 ∧ x3 = 0
        · rw [if_pos q1]
          obtain ⟨rfl, q2, rfl, rfl⟩ := q1
          by_cases q3 : drE ⟨az, el⟩ = 0
          · by_cases q4 : 0 ≤ x4 ∧ x4 ≤ 1000
            · rw [if_pos ⟨q3, q4⟩]
              refine c120.fok (by simp only [eSp, subs, sub1, free_Sps]) (Cor.run hcs (noHx_good _) hm ?_)
              simp +contextual -implicitDefEqProofs (maxSteps := 2000000) only [bg_eq, a120, eSp, c38, c44, q2, q3, q4, eSps_len, and_self, not_true_eq_false, not_false_eq_true, ruB, rh_no, Int.reduceLT, Int.reduceLE, Int.reduceAdd, Int.reduceSub, Int.reduceMul, Int.reduceNeg, Int.reduceToNat, Int.reduceEq, Int.reduceNe, Int.reduceTDiv, Int.reduceTMod, implies_true, putL, appN, appX, appC, Eng.Fi, reduceCtorEq, exists_eq_left', exists_eq_left, if_true, if_false, List.replicate, Nat.reduceAdd, Nat.reduceSub, Nat.reduceMul, Nat.reduceLeDiff, Nat.reduceLT, Nat.reduceEqDiff]
            · rw [if_neg (fun h => q4 h.2)]
              refine c120.fok (by simp only [eSp, subs, sub1, free_Sps]) (Cor.run hcs (noHx_good _) hm ?_)
              simp +contextual -implicitDefEqProofs (maxSteps := 2000000) only [bg_eq, a120, eSp, c38, c44, q2, q3, q4, eSps_len, and_self, not_true_eq_false, not_false_eq_true, ruB, rh_no, Int.reduceLT, Int.reduceLE, Int.reduceAdd, Int.reduceSub, Int.reduceMul, Int.reduceNeg, Int.reduceToNat, Int.reduceEq, Int.reduceNe, Int.reduceTDiv, Int.reduceTMod, implies_true, putL, appN, appX, appC, Eng.Fi, reduceCtorEq, exists_eq_left', exists_eq_left, if_true, if_false, List.replicate, Nat.reduceAdd, Nat.reduceSub, Nat.reduceMul, Nat.reduceLeDiff, Nat.reduceLT, Nat.reduceEqDiff]
          · rw [if_neg (fun h => q3 h.1)]
            refine c120.fok (by simp only [eSp, subs, sub1, free_Sps]) (Cor.run hcs (noHx_good _) hm ?_)
            simp +contextual -implicitDefEqProofs (maxSteps := 2000000) only [bg_eq, a120, eSp, c38, c44, q2, q3, eSps_len, and_self, not_true_eq_false, not_false_eq_true, ruB, rh_no, Int.reduceLT, Int.reduceLE, Int.reduceAdd, Int.reduceSub, Int.reduceMul, Int.reduceNeg, Int.reduceToNat, Int.reduceEq, Int.reduceNe, Int.reduceTDiv, Int.reduceTMod, implies_true, putL, appN, appX, appC, Eng.Fi, reduceCtorEq, exists_eq_left', exists_eq_left, if_true, if_false, List.replicate, Nat.reduceAdd, Nat.reduceSub, Nat.reduceMul, Nat.reduceLeDiff, Nat.reduceLT, Nat.reduceEqDiff]
        · rw [if_neg q1]
          by_cases a1 : x5 = 0 ∧ (b.length : Int) = 0
          · obtain ⟨rfl, q2⟩ := a1
            by_cases a2 : x2 = 0
            · subst a2
              have a3 : (x3 = 0) = False := by simp only [eq_iff_iff, iff_false]; omega
              refine c120.fok (by simp only [eSp, subs, sub1, free_Sps]) (Cor.run hcs (noHx_good _) hm ?_)
              simp +contextual -implicitDefEqProofs (maxSteps := 2000000) only [bg_eq, a120, eSp, c38, c44, q2, a3, eSps_len, and_self, not_true_eq_false, not_false_eq_true, ruB, rh_no, Int.reduceLT, Int.reduceLE, Int.reduceAdd, Int.reduceSub, Int.reduceMul, Int.reduceNeg, Int.reduceToNat, Int.reduceEq, Int.reduceNe, Int.reduceTDiv, Int.reduceTMod, implies_true, putL, appN, appX, appC, Eng.Fi, reduceCtorEq, exists_eq_left', exists_eq_left, if_true, if_false, List.replicate, Nat.reduceAdd, Nat.reduceSub, Nat.reduceMul, Nat.reduceLeDiff, Nat.reduceLT, Nat.reduceEqDiff]
            · refine c120.fok (by simp only [eSp, subs, sub1, free_Sps]) (Cor.run hcs (noHx_good _) hm ?_)
              simp +contextual -implicitDefEqProofs (maxSteps := 2000000) only [bg_eq, a120, eSp, c38, c44, q2, a2, eSps_len, and_self, not_true_eq_false, not_false_eq_true, ruB, rh_no, Int.reduceLT, Int.reduceLE, Int.reduceAdd, Int.reduceSub, Int.reduceMul, Int.reduceNeg, Int.reduceToNat, Int.reduceEq, Int.reduceNe, Int.reduceTDiv, Int.reduceTMod, implies_true, putL, appN, appX, appC, Eng.Fi, reduceCtorEq, exists_eq_left', exists_eq_left, if_true, if_false, List.replicate, Nat.reduceAdd, Nat.reduceSub, Nat.reduceMul, Nat.reduceLeDiff, Nat.reduceLT, Nat.reduceEqDiff]
          · have q1' : ((¬ x5 = 0) ∨ ¬ (b.length : Int) = 0) = True := by simp only [eq_iff_iff, iff_true]; omega
            refine c120.fok (by simp only [eSp, subs, sub1, free_Sps]) (Cor.run hcs (noHx_good _) hm ?_)
            simp +contextual -implicitDefEqProofs (maxSteps := 2000000) only [bg_eq, a120, eSp, c38, c44, q1', eSps_len, and_self, not_true_eq_false, not_false_eq_true, ruB, rh_no, Int.reduceLT, Int.reduceLE, Int.reduceAdd, Int.reduceSub, Int.reduceMul, Int.reduceNeg, Int.reduceToNat, Int.reduceEq, Int.reduceNe, Int.reduceTDiv, Int.reduceTMod, implies_true, putL, appN, appX, appC, Eng.Fi, reduceCtorEq, exists_eq_left', exists_eq_left, if_true, if_false, List.replicate, Nat.reduceAdd, Nat.reduceSub, Nat.reduceMul, Nat.reduceLeDiff, Nat.reduceLT, Nat.reduceEqDiff]
      · obtain rfl : k = 1 := by omega
        have h1 := h1 rfl
        rw [h1]
        by_cases q1 : x5 = 0 ∧ (b.length : Int) = 0
        · rw [if_pos q1]
          obtain ⟨rfl, q2⟩ := q1
          by_cases q3 : drE ⟨az, el⟩ = 0 ∧ (0 ≤ x4 ∧ x4 ≤ 1000)
          · by_cases q4 : azR x2 ∧ (1 ≤ x3 ∧ x3 ≤ 360)
            · rw [if_pos ⟨q3, q4⟩]
              unfold azR at q4
              refine c120.fok (by simp only [eSp, subs, sub1, free_Sps]) (Cor.run hcs (noHx_good _) hm ?_)
              simp +contextual -implicitDefEqProofs (maxSteps := 2000000) only [bg_eq, a120, eSp, c38, c44, q2, q3, q4, eSps_len, and_self, not_true_eq_false, not_false_eq_true, ruB, rh_no, Int.reduceLT, Int.reduceLE, Int.reduceAdd, Int.reduceSub, Int.reduceMul, Int.reduceNeg, Int.reduceToNat, Int.reduceEq, Int.reduceNe, Int.reduceTDiv, Int.reduceTMod, implies_true, putL, appN, appX, appC, Eng.Fi, reduceCtorEq, exists_eq_left', exists_eq_left, if_true, if_false, List.replicate, Nat.reduceAdd, Nat.reduceSub, Nat.reduceMul, Nat.reduceLeDiff, Nat.reduceLT, Nat.reduceEqDiff]
            · rw [if_neg (fun h => q4 h.2)]
              have q4' : ((¬ (0 ≤ x2 ∧ x2 ≤ 359)) ∨ ¬ (1 ≤ x3 ∧ x3 ≤ 360)) = True := by simp only [eq_iff_iff, iff_true]; unfold azR at q4; omega
              refine c120.fok (by simp only [eSp, subs, sub1, free_Sps]) (Cor.run hcs (noHx_good _) hm ?_)
              simp +contextual -implicitDefEqProofs (maxSteps := 2000000) only [bg_eq, a120, eSp, c38, c44, q2, q3, q4', eSps_len, and_self, not_true_eq_false, not_false_eq_true, ruB, rh_no, Int.reduceLT, Int.reduceLE, Int.reduceAdd, Int.reduceSub, Int.reduceMul, Int.reduceNeg, Int.reduceToNat, Int.reduceEq, Int.reduceNe, Int.reduceTDiv, Int.reduceTMod, implies_true, putL, appN, appX, appC, Eng.Fi, reduceCtorEq, exists_eq_left', exists_eq_left, if_true, if_false, List.replicate, Nat.reduceAdd, Nat.reduceSub, Nat.reduceMul, Nat.reduceLeDiff, Nat.reduceLT, Nat.reduceEqDiff]
          · rw [if_neg (fun h => q3 h.1)]
            have q3' : ((¬ drE ⟨az, el⟩ = 0) ∨ ¬ (0 ≤ x4 ∧ x4 ≤ 1000)) = True := by simp only [eq_iff_iff, iff_true]; omega
            refine c120.fok (by simp only [eSp, subs, sub1, free_Sps]) (Cor.run hcs (noHx_good _) hm ?_)
            simp +contextual -implicitDefEqProofs (maxSteps := 2000000) only [bg_eq, a120, eSp, c38, c44, q2, q3', eSps_len, and_self, not_true_eq_false, not_false_eq_true, ruB, rh_no, Int.reduceLT, Int.reduceLE, Int.reduceAdd, Int.reduceSub, Int.reduceMul, Int.reduceNeg, Int.reduceToNat, Int.reduceEq, Int.reduceNe, Int.reduceTDiv, Int.reduceTMod, implies_true, putL, appN, appX, appC, Eng.Fi, reduceCtorEq, exists_eq_left', exists_eq_left, if_true, if_false, List.replicate, Nat.reduceAdd, Nat.reduceSub, Nat.reduceMul, Nat.reduceLeDiff, Nat.reduceLT, Nat.reduceEqDiff]
        · rw [if_neg q1]
          have q1' : ((¬ x5 = 0) ∨ ¬ (b.length : Int) = 0) = True := by simp only [eq_iff_iff, iff_true]; omega
          refine c120.fok (by simp only [eSp, subs, sub1, free_Sps]) (Cor.run hcs (noHx_good _) hm ?_)
          simp +contextual -implicitDefEqProofs (maxSteps := 2000000) only [bg_eq, a120, eSp, c38, c44, q1', eSps_len, and_self, not_true_eq_false, not_false_eq_true, ruB, rh_no, Int.reduceLT, Int.reduceLE, Int.reduceAdd, Int.reduceSub, Int.reduceMul, Int.reduceNeg, Int.reduceToNat, Int.reduceEq, Int.reduceNe, Int.reduceTDiv, Int.reduceTMod, implies_true, putL, appN, appX, appC, Eng.Fi, reduceCtorEq, exists_eq_left', exists_eq_left, if_true, if_false, List.replicate, Nat.reduceAdd, Nat.reduceSub, Nat.reduceMul, Nat.reduceLeDiff, Nat.reduceLT, Nat.reduceEqDiff]
  · rw [if_neg hk] at hc
    rw [hc]
    refine c120.fok (by simp only [eSp, subs, sub1, free_Sps]) (Cor.run hcs (noHx_good _) hm ?_)
    simp +contextual -implicitDefEqProofs (maxSteps := 2000000) only [bg_eq, a120, eSp, c38, hk, not_false_eq_true, ruB, rh_no, Int.reduceLT, Int.reduceLE, Int.reduceAdd, Int.reduceSub, Int.reduceMul, Int.reduceNeg, Int.reduceToNat, Int.reduceEq, Int.reduceNe, Int.reduceTDiv, Int.reduceTMod, implies_true, putL, appN, appX, appC, Eng.Fi, reduceCtorEq, exists_eq_left', exists_eq_left, if_true, if_false, List.replicate, Nat.reduceAdd, Nat.reduceSub, Nat.reduceMul, Nat.reduceLeDiff, Nat.reduceLT, Nat.reduceEqDiff]
def S81 (l : Sps) (d : Int) (n : Nat) : AState := ⟨[.vs (eSps l), I d, .any, .any, .any, .any, I n, .any, .any, .any, .any, .any, .any, .any, .any, .any, .any, .any, .any, .any, .any, .any, .any, .any, .any, .any, .any, .any, .any, .any], [], 0⟩
theorem k_rListErr (n : Nat) (g : Fn P 120 (cf_rStepErr n)) (l : Sps) (d : Int) (hd : d + n = 2) : FOk P 81 [.vs (eSps l), I d] (.tup [I (stCh (stE n) l).1, I (stCh (stE n) l).2]) := by
  have hce : stCe l = if l.length = 0 then 10 else if l.length ≤ 10 then 0 else 8 := by
    unfold stCe
    by_cases q : l.length = 0
    · rw [if_pos q, unl_f 10 (by omega)]; rfl
    · rw [if_neg q, unl_t 10 (by omega)]
      by_cases q2 : l.length ≤ 10
      · rw [if_pos q2, unl_t 8 (by omega)]; rfl
      · rw [if_neg q2, unl_f 8 (by omega)]; rfl
  by_cases q1 : l.length = 0
  · rw [if_pos q1] at hce
    have hv : stCh (stE n) l = (0, 10) := by rw [stCh, if_neg (by rw [hce]; decide), hce]
    rw [hv]
    have q1' : ((l.length : Int) = 0) = True := by simp only [eq_iff_iff, iff_true]; omega
    refine c81.fok (by simp only [subs, sub1, free_Sps]) (Cor.run (addC_good g (noC_good _)) (noHx_good _) hm ?_)
    simp +contextual -implicitDefEqProofs (maxSteps := 2000000) only [bg_eq, a81, eSps_len, q1', ruB, rh_no, Int.reduceLT, Int.reduceLE, Int.reduceAdd, Int.reduceSub, Int.reduceMul, Int.reduceNeg, Int.reduceToNat, Int.reduceEq, Int.reduceNe, Int.reduceTDiv, Int.reduceTMod, implies_true, putL, appN, appX, appC, Eng.Fi, reduceCtorEq, exists_eq_left', exists_eq_left, if_true, if_false, List.replicate, Nat.reduceAdd, Nat.reduceSub, Nat.reduceMul, Nat.reduceLeDiff, Nat.reduceLT, Nat.reduceEqDiff]
  · rw [if_neg q1] at hce
    have q1' : ((l.length : Int) = 0) = False := by simp only [eq_iff_iff, iff_false]; omega
    by_cases q2 : l.length ≤ 10
    · rw [if_pos q2] at hce
      have q2' : (10 < (l.length : Int)) = False := by simp only [eq_iff_iff, iff_false]; omega
      have hv : stCh (stE n) l = stCg (stE n) 0 l := by rw [stCh, if_pos hce]
      rw [hv]
      refine c81.fok (by simp only [subs, sub1, free_Sps]) (Cor.run (addC_good g (noC_good _)) (noHx_good _) hm ?_)
      simp +contextual -implicitDefEqProofs (maxSteps := 2000000) only [bg_eq, a81, eSps_len, q1', q2', ruB, rh_no, Int.reduceLT, Int.reduceLE, Int.reduceAdd, Int.reduceSub, Int.reduceMul, Int.reduceNeg, Int.reduceToNat, Int.reduceEq, Int.reduceNe, Int.reduceTDiv, Int.reduceTMod, implies_true, putL, appN, appX, appC, Eng.Fi, reduceCtorEq, exists_eq_left', exists_eq_left, if_true, if_false, List.replicate, Nat.reduceAdd, Nat.reduceSub, Nat.reduceMul, Nat.reduceLeDiff, Nat.reduceLT, Nat.reduceEqDiff]
      refine Cor.lp (addC_good g (noC_good _)) (noHx_good _) hm (S81 l d) (fun m => m ≤ l.length ∧ stCg (stE n) 0 l = stCg (stE n) m (l.drop m)) (fun m => l.length - m) (a := 0) ⟨Nat.zero_le _, rfl⟩ (Wkn.keep [0, 1, 6] rfl) ?_
      intro f m ⟨hm', hf⟩ go
      rcases Nat.lt_or_ge m l.length with h | h
      · have e1 : decide ((m : Int) < (l.length : Int)) = true := lt_t h
        have e2 := eSps_get l h
        have e3 : IntKind.wrap .i64 ((m : Int) + 1) = ((m + 1 : Nat) : Int) := suc_w (by omega)
        have y := x_rStepErr n l[m] d (by simp only [hd])
        rw [List.drop_eq_getElem_cons h, stCg] at hf
        generalize l[m] = s at *
        obtain ⟨k, ⟨az, el⟩, x2, x3, x4, x5, b⟩ := s
        simp only [eSp] at e2 y
        by_cases hz : stE n (.mk k ⟨az, el⟩ x2 x3 x4 x5 b) = 0
        · rw [if_pos hz] at hf
          simp +contextual -implicitDefEqProofs (maxSteps := 2000000) only [S81, e1, e2, e3, eSps_len, y, hz, not_true_eq_false, ruB, rh_no, Int.reduceLT, Int.reduceLE, Int.reduceAdd, Int.reduceSub, Int.reduceMul, Int.reduceNeg, Int.reduceToNat, Int.reduceEq, Int.reduceNe, Int.reduceTDiv, Int.reduceTMod, implies_true, putL, appN, appX, appC, Eng.Fi, reduceCtorEq, exists_eq_left', exists_eq_left, if_true, if_false, List.replicate, Nat.reduceAdd, Nat.reduceSub, Nat.reduceMul, Nat.reduceLeDiff, Nat.reduceLT, Nat.reduceEqDiff]
          exact go _ (m + 1) ⟨h, hf⟩ (by omega) (Wkn.to ⟨0, [], [], 0, [0, 1, 6]⟩ rfl rfl (by simp only [Wk.st, keepT, sub1, subs, Wk.hp, ABlk.sub, S81, free_Sps]; try rfl))
        · rw [if_neg hz] at hf
          rw [hf]
          simp +contextual -implicitDefEqProofs (maxSteps := 2000000) only [S81, e1, e2, e3, eSps_len, y, hz, not_false_eq_true, ruB, rh_no, Int.reduceLT, Int.reduceLE, Int.reduceAdd, Int.reduceSub, Int.reduceMul, Int.reduceNeg, Int.reduceToNat, Int.reduceEq, Int.reduceNe, Int.reduceTDiv, Int.reduceTMod, implies_true, putL, appN, appX, appC, Eng.Fi, reduceCtorEq, exists_eq_left', exists_eq_left, if_true, if_false, List.replicate, Nat.reduceAdd, Nat.reduceSub, Nat.reduceMul, Nat.reduceLeDiff, Nat.reduceLT, Nat.reduceEqDiff]
      · have e1 : decide ((m : Int) < (l.length : Int)) = false := lt_f h
        rw [List.drop_eq_nil_of_le h] at hf
        rw [hf]
        simp +contextual -implicitDefEqProofs (maxSteps := 2000000) only [S81, e1, eSps_len, stCg, ruB, rh_no, Int.reduceLT, Int.reduceLE, Int.reduceAdd, Int.reduceSub, Int.reduceMul, Int.reduceNeg, Int.reduceToNat, Int.reduceEq, Int.reduceNe, Int.reduceTDiv, Int.reduceTMod, implies_true, putL, appN, appX, appC, Eng.Fi, reduceCtorEq, exists_eq_left', exists_eq_left, if_true, if_false, List.replicate, Nat.reduceAdd, Nat.reduceSub, Nat.reduceMul, Nat.reduceLeDiff, Nat.reduceLT, Nat.reduceEqDiff]
    · rw [if_neg q2] at hce
      have hv : stCh (stE n) l = (0, 8) := by rw [stCh, if_neg (by rw [hce]; decide), hce]
      rw [hv]
      have q2' : (10 < (l.length : Int)) = True := by simp only [eq_iff_iff, iff_true]; omega
      refine c81.fok (by simp only [subs, sub1, free_Sps]) (Cor.run (addC_good g (noC_good _)) (noHx_good _) hm ?_)
      simp +contextual -implicitDefEqProofs (maxSteps := 2000000) only [bg_eq, a81, eSps_len, q1', q2', ruB, rh_no, Int.reduceLT, Int.reduceLE, Int.reduceAdd, Int.reduceSub, Int.reduceMul, Int.reduceNeg, Int.reduceToNat, Int.reduceEq, Int.reduceNe, Int.reduceTDiv, Int.reduceTMod, implies_true, putL, appN, appX, appC, Eng.Fi, reduceCtorEq, exists_eq_left', exists_eq_left, if_true, if_false, List.replicate, Nat.reduceAdd, Nat.reduceSub, Nat.reduceMul, Nat.reduceLeDiff, Nat.reduceLT, Nat.reduceEqDiff]
theorem g_rListErr_of (n : Nat) (g : Fn P 120 (cf_rStepErr n)) : Fn P 81 (cf_rListErr n) := fun args v h => by
  unfold cf_rListErr at h; split at h
  · split at h
    · rename_i hd
      obtain ⟨l, rfl, h2⟩ := onSps_inv h
      cases h2; exact k_rListErr n g l _ hd
    · cases h
  · cases h
theorem g_rStepErr : ∀ (n : Nat), n ≤ 2 → Fn P 120 (cf_rStepErr n)
  | 0, _ => fun args v h => by
    unfold cf_rStepErr at h; split at h
    · split at h
      · rename_i d hd
        obtain ⟨s, rfl, h2⟩ := onSp_inv h
        cases h2
        exact k_rStepErrG 0 (by decide) d _ (addC_good g_rDirectionErr (addC_good g_Within (noC_good _))) s hd (fun n lo hi => rfl) (fun a e => rfl) (.inl rfl)
      · cases h
    · cases h
  | n + 1, hn => fun args v h => by
    have g := g_rListErr_of n (g_rStepErr n (by omega))
    unfold cf_rStepErr at h; split at h
    · split at h
      · rename_i d hd
        obtain ⟨s, rfl, h2⟩ := onSp_inv h
        cases h2
        refine k_rStepErrG (n + 1) hn d _ (addC_good g (addC_good g_rDirectionErr (addC_good g_Within (noC_good _)))) s hd (fun n lo hi => rfl) (fun a e => rfl) (.inr ⟨(stCh (stE n) s.body).1, ?_⟩)
        exact x_rListErr n s.body (d + 1) (by simp only [eq_iff_iff, iff_true]; omega)
      · cases h
    · cases h
theorem g_rListErr (n : Nat) (hn : n ≤ 2) : Fn P 81 (cf_rListErr n) := g_rListErr_of n (g_rStepErr n hn)
end Sc
