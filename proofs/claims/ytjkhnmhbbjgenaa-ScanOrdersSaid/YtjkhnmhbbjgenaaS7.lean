import Derived.Test.YtjkhnmhbbjgenaaEngS9
import Derived.Test.YtjkhnmhbbjgenaaS6
open Go Go.Proofs Eng
set_option maxRecDepth 100000
set_option linter.unusedSimpArgs false
set_option linter.unusedVariables false
def a17 : AC := .seq (.ops false [] [⟨some 2, .p (.mov), [.c (.int .i64 0)], none⟩, ⟨some 3, .p (.mov), [.c (.int .i64 0)], none⟩]) (.seq (.seq (.ops false [] [⟨some 9, .p (.mov), [.t 0], none⟩, ⟨some 10, .call 76, [.t 9, .c (.int .i64 0)], none⟩, ⟨some 8, .p (.mov), [.t 10], none⟩, ⟨some 11, .p (.ext 0), [.t 8], none⟩, ⟨some 12, .p (.ext 1), [.t 8], none⟩, ⟨some 4, .p (.mov), [.t 11], none⟩, ⟨some 5, .p (.mov), [.t 12], none⟩]) (.seq (.ops false [] [⟨some 13, .p (.mov), [.t 5], none⟩, ⟨some 14, .p (.binI .neq), [.t 13, .c (.int .i64 0)], none⟩]) (.cond (.t 14) (.seq (.ops false [] [⟨some 15, .p (.mov), [.t 4], none⟩, ⟨some 16, .p (.mov), [.t 5], none⟩, ⟨some 2, .p (.mov), [.t 15], none⟩, ⟨some 3, .p (.mov), [.t 16], none⟩]) (.ret)) (.skip)))) (.seq (.ops false [] [⟨some 6, .alloc 3 1 [.int .i64 0], [], none⟩, ⟨none, .store 1 false, [.t 6, .c (.int .i64 0)], none⟩]) (.seq (.ops false [] [⟨some 17, .p (.mov), [.t 0], none⟩, ⟨some 18, .p (.mkfn 78 0), [.t 6], none⟩, ⟨some 19, .call 77, [.t 17, .t 18], none⟩, ⟨some 7, .p (.mov), [.t 19], none⟩]) (.seq (.ops false [] [⟨some 20, .p (.mov), [.t 7], none⟩, ⟨some 21, .call 79, [.t 20, .c (.int .i64 8)], none⟩, ⟨some 2, .p (.mov), [.c (.int .i64 0)], none⟩, ⟨some 3, .p (.mov), [.t 21], none⟩]) (.ret)))))
theorem c17 : FnC Try.prog 17 22 a17 [.tmp 2, .tmp 3] := ⟨Try.call17, _, _, Try.func17, rfl, by kernel_rfl, by kernel_rfl, rfl⟩
def a78 : AC := .seq (.ops false [] [⟨some 2, .box 75 3 1 true, [.t 0], none⟩, ⟨some 3, .p (.mov), [.c (.bool false)], none⟩]) (.seq (.ops false [] [⟨some 4, .load 1 false, [.t 1], none⟩, ⟨some 5, .p (.binI .add), [.t 4, .c (.int .i64 1)], none⟩, ⟨none, .store 1 false, [.t 1, .t 5], none⟩]) (.seq (.ops false [] [⟨some 6, .load 1 false, [.t 1], none⟩, ⟨some 7, .p (.binI .leq), [.t 6, .c (.int .i64 60)], none⟩, ⟨some 3, .p (.mov), [.t 7], none⟩]) (.ret)))
theorem c78 : FnC Try.prog 78 8 a78 [.tmp 3] := ⟨Try.call78, _, _, Try.func78, rfl, by kernel_rfl, by kernel_rfl, rfl⟩
def a80 : AC := .seq (.ops false [] [⟨some 2, .p (.mov), [.c (.nilslice)], none⟩, ⟨some 3, .p (.mov), [.c (.int .i64 0)], none⟩]) (.seq (.seq (.ops false [] [⟨some 8, .p (.mov), [.t 0], none⟩, ⟨some 9, .call 17, [.t 8], none⟩, ⟨some 7, .p (.mov), [.t 9], none⟩, ⟨some 10, .p (.ext 0), [.t 7], none⟩, ⟨some 11, .p (.ext 1), [.t 7], none⟩, ⟨some 4, .p (.mov), [.t 10], none⟩, ⟨some 5, .p (.mov), [.t 11], none⟩]) (.seq (.ops false [] [⟨some 12, .p (.mov), [.t 5], none⟩, ⟨some 13, .p (.binI .neq), [.t 12, .c (.int .i64 0)], none⟩]) (.cond (.t 13) (.seq (.ops false [] [⟨some 14, .p (.mov), [.t 5], none⟩, ⟨some 2, .p (.mov), [.c (.nilslice)], none⟩, ⟨some 3, .p (.mov), [.t 14], none⟩]) (.ret)) (.skip)))) (.seq (.ops false [] [⟨some 6, .alloc 29 1 [.nilslice], [], none⟩]) (.seq (.ops false [] [⟨some 15, .p (.mov), [.t 0], none⟩, ⟨some 16, .p (.mkfn 119 0), [.t 6], none⟩, ⟨some 17, .call 77, [.t 15, .t 16], none⟩]) (.seq (.ops false [] [⟨some 18, .load 1 false, [.t 6], none⟩, ⟨some 2, .p (.mov), [.t 18], none⟩, ⟨some 3, .p (.mov), [.c (.int .i64 0)], none⟩]) (.ret)))))
theorem c80 : FnC Try.prog 80 19 a80 [.tmp 2, .tmp 3] := ⟨Try.call80, _, _, Try.func80, rfl, by kernel_rfl, by kernel_rfl, rfl⟩
def a119 : AC := .seq (.ops false [] [⟨some 2, .box 75 3 1 true, [.t 0], none⟩, ⟨some 3, .p (.mov), [.c (.bool false)], none⟩]) (.seq (.ops false [] [⟨some 4, .load 1 false, [.t 1], none⟩, ⟨some 5, .load 3 true, [.t 2], none⟩, ⟨some 6, .fbs 3, [.t 5], none⟩, ⟨some 7, .app 75 3 24, [.t 4, .t 6], none⟩, ⟨none, .store 1 false, [.t 1, .t 7], none⟩]) (.seq (.ops false [] [⟨some 3, .p (.mov), [.c (.bool true)], none⟩]) (.ret)))
theorem c119 : FnC Try.prog 119 8 a119 [.tmp 3] := ⟨Try.call119, _, _, Try.func119, rfl, by kernel_rfl, by kernel_rfl, rfl⟩
namespace Sc
def Jc (v : Int) : List HEnt := [⟨0, 0, .rows 3 1 [I v]⟩]
def w1 (v : Int) : Int := IntKind.wrap .i64 (v + 1)
theorem l_CheckSteps1 (s : St) (v : Int) : LOk P 78 [eSt s, .ptr 0 1 0 0] (Jc v) 1 (.bool (decide (w1 v ≤ 60))) (Jc (w1 v)) 1 := by
  have hw : IntKind.wrap .i64 (v + 1) = w1 v := rfl
  refine c78.lok (Cor.post (Cor.run (noC_good _) (noHx_good _) hm ?_))
  simp +contextual -implicitDefEqProofs (maxSteps := 2000000) only [bg_eq, a78, FinL, Jc, hw, ruB, rh_no, Int.reduceLT, Int.reduceLE, Int.reduceAdd, Int.reduceSub, Int.reduceMul, Int.reduceNeg, Int.reduceToNat, Int.reduceEq, Int.reduceNe, Int.reduceTDiv, Int.reduceTMod, implies_true, putL, appN, appX, appC, Eng.Fi, reduceCtorEq, exists_eq_left', exists_eq_left, if_true, if_false, List.replicate, Nat.reduceAdd, Nat.reduceSub, Nat.reduceMul, Nat.reduceLeDiff, Nat.reduceLT, Nat.reduceEqDiff]
  exact ⟨⟨[.any, .any, .any, .bool (decide (w1 v ≤ 60)), .any, .any, .any, .any], Jc (w1 v), 1⟩, (Wkn.to ⟨1, [], [], 1, [3]⟩ rfl rfl (by simp [Wk.st, keepT, memN, Wk.fate, Wk.fate0, assoc, getE, Wk.hp, ABlk.sub, sub1, subs, Jc])), _, rfl, rfl, rfl, rfl⟩
def cntH : List AV → List HEnt → Nat → Option (AV × List HEnt × Nat)
  | [.agg [.int .i64 _, .int .i64 _, .int .i64 _], .ptr 0 1 0 0], [⟨0, 0, .rows 3 1 [.int .i64 v]⟩], 1 => some (.bool (decide (w1 v ≤ 60)), Jc (w1 v), 1)
  | _, _, _ => none
theorem h_cnt : Hn P 78 cntH := fun args H nx v hp' nx' h => by
  unfold cntH at h
  split at h
  · have h := Option.some.inj h
    simp only [Prod.mk.injEq] at h
    obtain ⟨rfl, rfl, rfl⟩ := h
    exact l_CheckSteps1 ⟨_, _, _⟩ _
  · cases h
def cntM : Mach Int where
  f := 78
  first := []
  cap := [.ptr 0 1 0 0]
  J := Jc
  nx := fun _ => 1
  st := fun v _ => (w1 v, decide (w1 v ≤ 60))
  hy := cntH
  hn := h_cnt
  lim := fun _ => True
  hyE := fun _ _ _ => rfl
  mono := fun _ _ _ => Nat.le_refl _
  low := fun x e he => by
    simp only [Jc, List.mem_singleton] at he
    subst he
    exact ⟨⟨Nat.zero_lt_one, Nat.zero_lt_one⟩, fun φ _ => rfl⟩
  sub := fun _ φ h => ⟨rfl, by simp only [subs, sub1, h 0 (by decide)]⟩
  inj := fun a b h => by
    simp only [Jc, List.cons.injEq, HEnt.mk.injEq, ABlk.rows.injEq, AV.int.injEq, true_and, and_true] at h
    exact h
  ne := by decide
  ne2 := by decide
  ne3 := by decide
theorem cnt_ok : ∀ (ss : List St) (v : Int), runOk cntM.st cntM.lim v ss
  | [], _ => trivial
  | _ :: r, _ => ⟨trivial, fun _ => cnt_ok r _⟩
theorem cnt_run : ∀ (ss : List St) (v : Int), 0 ≤ v → v ≤ 60 → (runS cntM.st v ss).2 = decide (v + ss.length ≤ 60)
  | [], v, h, h' => by simp [runS]; omega
  | s :: r, v, h, h' => by
    have e : w1 v = v + 1 := wrap64 (by omega) (by omega)
    have hs : cntM.st v s = (v + 1, decide (v + 1 ≤ 60)) := by show (w1 v, decide (w1 v ≤ 60)) = _; rw [e]
    rw [runS, hs]
    by_cases hc : v + 1 ≤ 60
    · simp only [hc, decide_true, if_true]
      rw [cnt_run r (v + 1) (by omega) hc, List.length_cons]
      congr 1; simp only [eq_iff_iff]; omega
    · simp only [hc, decide_false, Bool.false_eq_true, if_false, List.length_cons]
      simp; omega
def ckC (l : Sps) : Int × Int := if (stCh (stE 2) l).2 = 0 then (0, unl (((stopsAll 2 l).length : Int) ≤ 60) 8) else stCh (stE 2) l
def S17 (l : Sps) : AState := ⟨[.vs (eSps l), .any, .any, .any, .any, .any, .ptr 0 1 0 0, .any, .any, .any, .any, .any, .any, .any, .any, .any, .any, .any, .any, .any, .any, .any], Jc 0, 1⟩
theorem k_CheckSteps (l : Sps) : FOk P 17 [.vs (eSps l)] (.tup [I (ckC l).1, I (ckC l).2]) := by
  have y := x_stepsErr 2 l 0 (by simp)
  by_cases h0 : (stCh (stE 2) l).2 = 0
  · have hv : ckC l = (0, unl (((stopsAll 2 l).length : Int) ≤ 60) 8) := if_pos h0
    rw [hv]
    refine c17.fok (y := YH P (addH 77 (stopsH cntM 2) noHx)) (by simp only [subs, sub1, free_Sps]) ?_ (fun G => YH_add (by decide) (YH_no _ G))
    rw [bg_eq]
    have hg := addH_good (h_stops cntM 2) (noHx_good P)
    refine Cor.seq (Cor.run (noC_good _) hg hm ?_)
    simp +contextual -implicitDefEqProofs (maxSteps := 2000000) only [eThen_normal, ruH, ruB, Int.reduceLT, Int.reduceLE, Int.reduceAdd, Int.reduceSub, Int.reduceMul, Int.reduceNeg, Int.reduceToNat, Int.reduceEq, Int.reduceNe, Int.reduceTDiv, Int.reduceTMod, implies_true, putL, appN, appX, appC, Eng.Fi, reduceCtorEq, exists_eq_left', exists_eq_left, if_true, if_false, List.replicate, Nat.reduceAdd, Nat.reduceSub, Nat.reduceMul, Nat.reduceLeDiff, Nat.reduceLT, Nat.reduceEqDiff]
    refine Cor.seq (Cor.run (addC_good (g_stepsErr 2 (by decide)) (noC_good _)) hg hm ?_)
    simp +contextual -implicitDefEqProofs (maxSteps := 2000000) only [y, h0, eThen_normal, ruH, ruB, Int.reduceLT, Int.reduceLE, Int.reduceAdd, Int.reduceSub, Int.reduceMul, Int.reduceNeg, Int.reduceToNat, Int.reduceEq, Int.reduceNe, Int.reduceTDiv, Int.reduceTMod, implies_true, putL, appN, appX, appC, Eng.Fi, reduceCtorEq, exists_eq_left', exists_eq_left, if_true, if_false, List.replicate, Nat.reduceAdd, Nat.reduceSub, Nat.reduceMul, Nat.reduceLeDiff, Nat.reduceLT, Nat.reduceEqDiff]
    refine Cor.seq (Cor.run (noC_good _) hg hm ?_)
    simp +contextual -implicitDefEqProofs (maxSteps := 2000000) only [eThen_normal, ruH, ruB, Int.reduceLT, Int.reduceLE, Int.reduceAdd, Int.reduceSub, Int.reduceMul, Int.reduceNeg, Int.reduceToNat, Int.reduceEq, Int.reduceNe, Int.reduceTDiv, Int.reduceTMod, implies_true, putL, appN, appX, appC, Eng.Fi, reduceCtorEq, exists_eq_left', exists_eq_left, if_true, if_false, List.replicate, Nat.reduceAdd, Nat.reduceSub, Nat.reduceMul, Nat.reduceLeDiff, Nat.reduceLT, Nat.reduceEqDiff]
    refine Cor.wk (s2 := S17 l) (Wkn.to ⟨0, [(0, 0)], [], 1, [0, 6]⟩ rfl rfl (by simp [Wk.st, keepT, memN, Wk.fate, Wk.fate0, assoc, getE, Wk.hp, ABlk.sub, sub1, subs, S17, Jc, free_Sps])) ?_
    have ys := stopsH_e cntM 2 l 0 h0 (cnt_ok _ _)
    rw [cnt_run _ _ (by decide) (by decide), Int.zero_add] at ys
    generalize (runS cntM.st 0 (stopsAll 2 l)).1 = q at *
    have ys' : stopsH cntM 2 [.vs (eSps l), .fn 78 [] [.ptr 0 1 0 0]] (Jc 0) 1 = some (.bool (decide (((stopsAll 2 l).length : Int) ≤ 60)), Jc q, 1) := ys
    refine Cor.run (addC_good g_unless (noC_good _)) hg hm ?_
    simp +contextual -implicitDefEqProofs (maxSteps := 2000000) only [S17, ys', x_unless, ruH, ruB, Int.reduceLT, Int.reduceLE, Int.reduceAdd, Int.reduceSub, Int.reduceMul, Int.reduceNeg, Int.reduceToNat, Int.reduceEq, Int.reduceNe, Int.reduceTDiv, Int.reduceTMod, implies_true, putL, appN, appX, appC, Eng.Fi, reduceCtorEq, exists_eq_left', exists_eq_left, if_true, if_false, List.replicate, Nat.reduceAdd, Nat.reduceSub, Nat.reduceMul, Nat.reduceLeDiff, Nat.reduceLT, Nat.reduceEqDiff]
  · have hv : ckC l = stCh (stE 2) l := if_neg h0
    rw [hv]
    refine c17.fok (by simp only [subs, sub1, free_Sps]) (Cor.run (addC_good (g_stepsErr 2 (by decide)) (noC_good _)) (noHx_good _) hm ?_)
    simp +contextual -implicitDefEqProofs (maxSteps := 2000000) only [bg_eq, a17, y, h0, not_false_eq_true, ruB, rh_no, Int.reduceLT, Int.reduceLE, Int.reduceAdd, Int.reduceSub, Int.reduceMul, Int.reduceNeg, Int.reduceToNat, Int.reduceEq, Int.reduceNe, Int.reduceTDiv, Int.reduceTMod, implies_true, putL, appN, appX, appC, Eng.Fi, reduceCtorEq, exists_eq_left', exists_eq_left, if_true, if_false, List.replicate, Nat.reduceAdd, Nat.reduceSub, Nat.reduceMul, Nat.reduceLeDiff, Nat.reduceLT, Nat.reduceEqDiff]
noncomputable def cf_CheckSteps : List AV → Option AV
  | [l_v] => onSps l_v fun l => some (.tup [I (ckC l).1, I (ckC l).2])
  | _ => none
theorem g_CheckSteps : Fn P 17 cf_CheckSteps := fun args v hh => by
  unfold cf_CheckSteps at hh; split at hh
  · obtain ⟨l, rfl, hh1⟩ := onSps_inv hh
    have hk := Option.some.inj hh1; subst hk; exact k_CheckSteps _
  · cases hh
theorem x_CheckSteps (l : Sps) : cf_CheckSteps [eVs l] = some (.tup [I (ckC l).1, I (ckC l).2]) := by
  simp only [cf_CheckSteps, onSps_e]
theorem mx {n : Nat} (h : n ≤ 100000) : (n ≤ maxLen) = True := by
  simp only [eq_iff_iff, iff_true]; exact Nat.le_trans h (by decide)
def Jo : List St → List HEnt
  | [] => [⟨0, 0, .rows 29 1 [.nilslice]⟩]
  | s :: r => [⟨r.length + r.length + 1, 1, .rows 75 3 ((s :: r).map eSt)⟩, ⟨0, 0, .rows 29 1 [.slice (r.length + r.length + 1) 3 0 (r.length + 1)]⟩]
theorem l_compiled1 (s : St) (o : List St) (ho : o.length ≤ 1000) : LOk P 119 [eSt s, .ptr 0 1 0 0] (Jo o) (o.length + o.length + 1) (.bool true) (Jo (o ++ [s])) ((o ++ [s]).length + (o ++ [s]).length + 1) := by
  cases o with
  | nil =>
    have m1 : (1 ≤ maxLen) = True := mx (by omega)
    refine c119.lok (Cor.post (Cor.run (noC_good _) (noHx_good _) hm ?_))
    simp +contextual -implicitDefEqProofs (maxSteps := 2000000) only [bg_eq, a119, FinL, Jo, rs_nil, rs_t, rs_f, ag_nils, ag_sl, ag_vs, ag_str, ag_ptr, ag_nilp, ag_vp, ag_fun, m1, ruB, rh_no, Int.reduceLT, Int.reduceLE, Int.reduceAdd, Int.reduceSub, Int.reduceMul, Int.reduceNeg, Int.reduceToNat, Int.reduceEq, Int.reduceNe, Int.reduceTDiv, Int.reduceTMod, implies_true, putL, appN, appX, appC, Eng.Fi, reduceCtorEq, exists_eq_left', exists_eq_left, if_true, if_false, List.replicate, Nat.reduceAdd, Nat.reduceSub, Nat.reduceMul, Nat.reduceLeDiff, Nat.reduceLT, Nat.reduceEqDiff]
    refine ⟨⟨[.any, .any, .any, .bool true, .any, .any, .any, .any], Jo [s], 3⟩, (Wkn.to ⟨1, [(2, 1)], [], 3, [3]⟩ rfl rfl (by simp [Wk.st, keepT, memN, Wk.fate, Wk.fate0, assoc, getE, Wk.hp, ABlk.sub, sub1, subs, Jo])), _, rfl, rfl, rfl, rfl⟩
  | cons x r =>
    simp only [List.length_cons] at ho
    have e1 : (x :: r).length + (x :: r).length + 1 = r.length + r.length + 3 := by simp only [List.length_cons]; omega
    have e2 : ((x :: r) ++ [s]).length + ((x :: r) ++ [s]).length + 1 = r.length + r.length + 5 := by simp only [List.length_cons, List.cons_append, List.length_append, List.length_nil]; omega
    have e3 : Jo ((x :: r) ++ [s]) = [⟨r.length + r.length + 3, 1, .rows 75 3 (eSt x :: (r.map eSt ++ [eSt s]))⟩, ⟨0, 0, .rows 29 1 [.slice (r.length + r.length + 3) 3 0 (r.length + 1 + 1)]⟩] := by
      simp only [List.cons_append, Jo, List.length_append, List.length_cons, List.length_nil, Nat.zero_add, List.map_cons, List.map_append, List.map_nil]
      rw [show r.length + 1 + (r.length + 1) + 1 = r.length + r.length + 3 by omega]
    have e4 : Jo (x :: r) = [⟨r.length + r.length + 1, 1, .rows 75 3 (eSt x :: r.map eSt)⟩, ⟨0, 0, .rows 29 1 [.slice (r.length + r.length + 1) 3 0 (r.length + 1)]⟩] := rfl
    have m1 : (r.length + 1 + 1 ≤ maxLen) = True := mx (by omega)
    have m2 : ((r.length + 1 + 1) * 24 ≤ 140737488355328) = True := by simp only [eq_iff_iff, iff_true]; omega
    have t0 : (r.map eSt).length = r.length := by simp
    have t1 : (r.length ≤ (r.map eSt).length) = True := by simp
    have t2 : (r.map eSt).take r.length = r.map eSt := by rw [List.take_of_length_le]; simp
    have hrv : ∀ φ, subs φ (r.map eSt ++ [eSt s]) = r.map eSt ++ [eSt s] := fun φ => by
      have := free_St φ (r ++ [s])
      rwa [List.map_append] at this
    rw [e1, e2, e3, e4]
    generalize r.length = n at *
    generalize n + n = k at *
    generalize r.map eSt = rv at *
    refine c119.lok (Cor.post (Cor.run (noC_good _) (noHx_good _) hm ?_))
    simp +contextual -implicitDefEqProofs (maxSteps := 2000000) only [bg_eq, a119, FinL, rs_nil, rs_t, rs_f, ag_nils, ag_sl, ag_vs, ag_str, ag_ptr, ag_nilp, ag_vp, ag_fun, t0, t1, t2, m1, m2, Nat.le_refl, Nat.add_left_cancel_iff, Nat.add_assoc, ruB, rh_no, Int.reduceLT, Int.reduceLE, Int.reduceAdd, Int.reduceSub, Int.reduceMul, Int.reduceNeg, Int.reduceToNat, Int.reduceEq, Int.reduceNe, Int.reduceTDiv, Int.reduceTMod, implies_true, putL, appN, appX, appC, Eng.Fi, reduceCtorEq, exists_eq_left', exists_eq_left, if_true, if_false, List.replicate, Nat.reduceAdd, Nat.reduceSub, Nat.reduceMul, Nat.reduceLeDiff, Nat.reduceLT, Nat.reduceEqDiff]
    refine ⟨⟨[.any, .any, .any, .bool true, .any, .any, .any, .any], [⟨k + 3, 1, .rows 75 3 (eSt x :: (rv ++ [eSt s]))⟩, ⟨0, 0, .rows 29 1 [.slice (k + 3) 3 0 (n + 1 + 1)]⟩], k + 5⟩, ?_, _, rfl, rfl, rfl, rfl⟩
    refine Wkn.trans (Wkn.sub (hp2 := [⟨k + 4, 1, .rows 75 3 (eSt x :: (rv ++ [eSt s]))⟩, ⟨0, 0, .rows 29 1 [.slice (k + 4) 3 0 (n + 1 + 1)]⟩]) ?_) (Wkn.to ⟨k + 3, [(k + 4, k + 3)], [], k + 5, [3]⟩ rfl ?_ ?_)
    · intro e he
      simp only [List.mem_cons, List.not_mem_nil, or_false] at he ⊢
      rcases he with rfl | rfl <;> simp
    · simp [Wk.ok, idg, Wk.isK, Wk.isF, nodupN, memN, assoc]
    · simp [Wk.st, keepT, memN, Wk.fate, Wk.fate0, assoc, getE, Wk.hp, ABlk.sub, sub1, subs, hrv]
theorem Jo_inj : ∀ (a b : List St), Jo a = Jo b → a = b
  | [], [], _ => rfl
  | [], _ :: _, h => by simp [Jo] at h
  | _ :: _, [], h => by simp [Jo] at h
  | x :: r, y :: q, h => by
    simp only [Jo, List.cons.injEq, HEnt.mk.injEq, ABlk.rows.injEq, true_and] at h
    have h1 := h.1.2
    have key : ∀ (l m : List St), l.map eSt = m.map eSt → l = m := by
      intro l
      induction l with
      | nil => intro m hm; cases m with
        | nil => rfl
        | cons _ _ => simp at hm
      | cons c l ih => intro m hm; cases m with
        | nil => simp at hm
        | cons d m =>
          simp only [List.map_cons, List.cons.injEq] at hm
          rw [ih m hm.2]
          cases c; cases d
          simp only [AV.agg.injEq, List.cons.injEq, AV.int.injEq, true_and, and_true] at hm
          obtain ⟨⟨rfl, rfl, rfl⟩, _⟩ := hm
          rfl
    exact key _ _ h1
section
open Classical
noncomputable def cmpH : List AV → List HEnt → Nat → Option (AV × List HEnt × Nat) := fun args H nx =>
  if h : ∃ p : St × List St, args = [eSt p.1, .ptr 0 1 0 0] ∧ H = Jo p.2 ∧ nx = p.2.length + p.2.length + 1 ∧ p.2.length ≤ 1000 then
    some (.bool true, Jo ((Classical.choose h).2 ++ [(Classical.choose h).1]), ((Classical.choose h).2 ++ [(Classical.choose h).1]).length + ((Classical.choose h).2 ++ [(Classical.choose h).1]).length + 1) else none
theorem cmpH_e (s : St) (o : List St) (ho : o.length ≤ 1000) : cmpH [eSt s, .ptr 0 1 0 0] (Jo o) (o.length + o.length + 1) = some (.bool true, Jo (o ++ [s]), (o ++ [s]).length + (o ++ [s]).length + 1) := by
  have h : ∃ p : St × List St, [eSt s, .ptr 0 1 0 0] = [eSt p.1, .ptr 0 1 0 0] ∧ Jo o = Jo p.2 ∧ o.length + o.length + 1 = p.2.length + p.2.length + 1 ∧ p.2.length ≤ 1000 := ⟨(s, o), rfl, rfl, rfl, ho⟩
  unfold cmpH
  rw [dif_pos h]
  have hs := Classical.choose_spec h
  have e1 : (Classical.choose h).2 = o := (Jo_inj _ _ hs.2.1).symm
  have e2 : (Classical.choose h).1 = s := by
    have h2 := AV.agg.inj (List.cons.inj hs.1).1
    generalize (Classical.choose h).1 = t at *
    cases s; cases t
    simp only [List.cons.injEq, AV.int.injEq, true_and, and_true] at h2
    obtain ⟨rfl, rfl, rfl⟩ := h2
    rfl
  rw [e1, e2]
theorem h_cmp : Hn P 119 cmpH := fun args H nx v hp' nx' h => by
  unfold cmpH at h
  split at h
  · rename_i hc
    have hs := Classical.choose_spec hc
    cases h
    generalize Classical.choose hc = q at hs ⊢
    obtain ⟨h1, h2, h3, h4⟩ := hs
    subst h1 h2 h3
    exact l_compiled1 _ _ h4
  · cases h
end
noncomputable def cmpM : Mach (List St) where
  f := 119
  first := []
  cap := [.ptr 0 1 0 0]
  J := Jo
  nx := fun o => o.length + o.length + 1
  st := fun o s => (o ++ [s], true)
  hy := cmpH
  hn := h_cmp
  lim := fun o => o.length ≤ 1000
  hyE := fun o s h => cmpH_e s o h
  mono := fun o s _ => by simp only [List.length_append]; omega
  low := fun o e he => by
    cases o with
    | nil =>
      simp only [Jo, List.mem_singleton] at he
      subst he
      exact ⟨⟨Nat.zero_lt_one, Nat.zero_lt_one⟩, fun φ _ => rfl⟩
    | cons x r =>
      simp only [Jo, List.mem_cons, List.not_mem_nil, or_false] at he
      rcases he with rfl | rfl
      · refine ⟨⟨?_, ?_⟩, fun φ _ => ?_⟩
        · simp only [List.length_cons]; omega
        · simp only [List.length_cons]; omega
        · simp only [ABlk.sub, free_St]
      · refine ⟨⟨?_, ?_⟩, fun φ hφ => ?_⟩
        · simp only [List.length_cons]; omega
        · simp only [List.length_cons]; omega
        · simp only [ABlk.sub, subs, sub1, hφ (r.length + r.length + 1) (by simp only [List.length_cons]; omega)]
  sub := fun o φ h => ⟨rfl, by simp only [subs, sub1, h 0 (by omega)]⟩
  inj := Jo_inj
  ne := by decide
  ne2 := by decide
  ne3 := by decide
theorem cmp_run : ∀ (ss o : List St), runS cmpM.st o ss = (o ++ ss, true)
  | [], o => by simp [runS]
  | s :: r, o => by
    have hs : cmpM.st o s = (o ++ [s], true) := rfl
    rw [runS, hs]
    simp only [if_true]
    rw [cmp_run r (o ++ [s]), List.append_assoc]; rfl
theorem cmp_ok : ∀ (ss o : List St), o.length + ss.length ≤ 1000 → runOk cmpM.st cmpM.lim o ss
  | [], _, _ => trivial
  | s :: r, o, h => by
    simp only [List.length_cons] at h
    refine ⟨show o.length ≤ 1000 by omega, fun _ => ?_⟩
    exact cmp_ok r (o ++ [s]) (by simp only [List.length_append, List.length_cons, List.length_nil]; omega)
def cmV (l : Sps) : AV := if (ckC l).2 = 0 then .tup [.vs ((stopsAll 2 l).map eSt), I 0] else .tup [.vs [], I (ckC l).2]
theorem ckC_ok {l : Sps} (h : (ckC l).2 = 0) : okP 2 l ∧ (stopsAll 2 l).length ≤ 60 := by
  unfold ckC at h
  split at h
  · rename_i h0
    have := unl_zero h (by decide)
    exact ⟨h0, by omega⟩
  · rename_i h0; exact absurd h h0
def S80 (l : Sps) : AState := ⟨[.vs (eSps l), .any, .any, .any, .any, .any, .ptr 0 1 0 0, .any, .any, .any, .any, .any, .any, .any, .any, .any, .any, .any, .any], Jo [], 1⟩
theorem k_compiled (l : Sps) : FOk P 80 [.vs (eSps l)] (cmV l) := by
  have y := x_CheckSteps l
  by_cases h0 : (ckC l).2 = 0
  · have hv : cmV l = .tup [.vs ((stopsAll 2 l).map eSt), I 0] := if_pos h0
    rw [hv]
    obtain ⟨hk, h60⟩ := ckC_ok h0
    refine c80.fok (y := YH P (addH 77 (stopsH cmpM 2) noHx)) (by simp only [subs, sub1, free_Sps]) ?_ (fun G => YH_add (by decide) (YH_no _ G))
    rw [bg_eq]
    have hg := addH_good (h_stops cmpM 2) (noHx_good P)
    refine Cor.seq (Cor.run (noC_good _) hg hm ?_)
    simp +contextual -implicitDefEqProofs (maxSteps := 2000000) only [eThen_normal, ruH, ruB, Int.reduceLT, Int.reduceLE, Int.reduceAdd, Int.reduceSub, Int.reduceMul, Int.reduceNeg, Int.reduceToNat, Int.reduceEq, Int.reduceNe, Int.reduceTDiv, Int.reduceTMod, implies_true, putL, appN, appX, appC, Eng.Fi, reduceCtorEq, exists_eq_left', exists_eq_left, if_true, if_false, List.replicate, Nat.reduceAdd, Nat.reduceSub, Nat.reduceMul, Nat.reduceLeDiff, Nat.reduceLT, Nat.reduceEqDiff]
    refine Cor.seq (Cor.run (addC_good g_CheckSteps (noC_good _)) hg hm ?_)
    simp +contextual -implicitDefEqProofs (maxSteps := 2000000) only [y, h0, eThen_normal, ruH, ruB, Int.reduceLT, Int.reduceLE, Int.reduceAdd, Int.reduceSub, Int.reduceMul, Int.reduceNeg, Int.reduceToNat, Int.reduceEq, Int.reduceNe, Int.reduceTDiv, Int.reduceTMod, implies_true, putL, appN, appX, appC, Eng.Fi, reduceCtorEq, exists_eq_left', exists_eq_left, if_true, if_false, List.replicate, Nat.reduceAdd, Nat.reduceSub, Nat.reduceMul, Nat.reduceLeDiff, Nat.reduceLT, Nat.reduceEqDiff]
    refine Cor.seq (Cor.run (noC_good _) hg hm ?_)
    simp +contextual -implicitDefEqProofs (maxSteps := 2000000) only [eThen_normal, ruH, ruB, Int.reduceLT, Int.reduceLE, Int.reduceAdd, Int.reduceSub, Int.reduceMul, Int.reduceNeg, Int.reduceToNat, Int.reduceEq, Int.reduceNe, Int.reduceTDiv, Int.reduceTMod, implies_true, putL, appN, appX, appC, Eng.Fi, reduceCtorEq, exists_eq_left', exists_eq_left, if_true, if_false, List.replicate, Nat.reduceAdd, Nat.reduceSub, Nat.reduceMul, Nat.reduceLeDiff, Nat.reduceLT, Nat.reduceEqDiff]
    refine Cor.wk (s2 := S80 l) (Wkn.to ⟨0, [(0, 0)], [], 1, [0, 6]⟩ rfl rfl (by simp [Wk.st, keepT, memN, Wk.fate, Wk.fate0, assoc, getE, Wk.hp, ABlk.sub, sub1, subs, S80, Jo, free_Sps])) ?_
    have ys := stopsH_e cmpM 2 l [] hk (cmp_ok _ _ (by simp only [List.length_nil]; omega))
    rw [cmp_run, List.nil_append] at ys
    generalize stopsAll 2 l = o at *
    have ys' : stopsH cmpM 2 [.vs (eSps l), .fn 119 [] [.ptr 0 1 0 0]] (Jo []) 1 = some (.bool true, Jo o, o.length + o.length + 1) := ys
    refine Cor.run (noC_good _) hg hm ?_
    cases o with
    | nil =>
      simp only [Jo] at ys'
      simp +contextual -implicitDefEqProofs (maxSteps := 2000000) only [S80, ys', Jo, List.map_nil, ruH, ruB, Int.reduceLT, Int.reduceLE, Int.reduceAdd, Int.reduceSub, Int.reduceMul, Int.reduceNeg, Int.reduceToNat, Int.reduceEq, Int.reduceNe, Int.reduceTDiv, Int.reduceTMod, implies_true, putL, appN, appX, appC, Eng.Fi, reduceCtorEq, exists_eq_left', exists_eq_left, if_true, if_false, List.replicate, Nat.reduceAdd, Nat.reduceSub, Nat.reduceMul, Nat.reduceLeDiff, Nat.reduceLT, Nat.reduceEqDiff]
    | cons x r =>
      simp only [Jo, List.length_cons] at ys'
      have t0 : (r.map eSt).length = r.length := by simp
      have t1 : (r.length ≤ (r.map eSt).length) = True := by simp
      have t2 : (r.map eSt).take r.length = r.map eSt := by rw [List.take_of_length_le]; simp
      simp only [List.map_cons] at ys' ⊢
      simp +contextual -implicitDefEqProofs (maxSteps := 2000000) only [S80, ys', Jo, List.map_cons, t0, t1, t2, Nat.le_refl, free_St, ruH, ruB, Int.reduceLT, Int.reduceLE, Int.reduceAdd, Int.reduceSub, Int.reduceMul, Int.reduceNeg, Int.reduceToNat, Int.reduceEq, Int.reduceNe, Int.reduceTDiv, Int.reduceTMod, implies_true, putL, appN, appX, appC, Eng.Fi, reduceCtorEq, exists_eq_left', exists_eq_left, if_true, if_false, List.replicate, Nat.reduceAdd, Nat.reduceSub, Nat.reduceMul, Nat.reduceLeDiff, Nat.reduceLT, Nat.reduceEqDiff]
  · have hv : cmV l = .tup [.vs [], I (ckC l).2] := if_neg h0
    rw [hv]
    refine c80.fok (by simp only [subs, sub1, free_Sps]) (Cor.run (addC_good g_CheckSteps (noC_good _)) (noHx_good _) hm ?_)
    simp +contextual -implicitDefEqProofs (maxSteps := 2000000) only [bg_eq, a80, y, h0, not_false_eq_true, ruB, rh_no, Int.reduceLT, Int.reduceLE, Int.reduceAdd, Int.reduceSub, Int.reduceMul, Int.reduceNeg, Int.reduceToNat, Int.reduceEq, Int.reduceNe, Int.reduceTDiv, Int.reduceTMod, implies_true, putL, appN, appX, appC, Eng.Fi, reduceCtorEq, exists_eq_left', exists_eq_left, if_true, if_false, List.replicate, Nat.reduceAdd, Nat.reduceSub, Nat.reduceMul, Nat.reduceLeDiff, Nat.reduceLT, Nat.reduceEqDiff]
noncomputable def cf_compiled : List AV → Option AV
  | [l_v] => onSps l_v fun l => some (cmV l)
  | _ => none
theorem g_compiled : Fn P 80 cf_compiled := fun args v hh => by
  unfold cf_compiled at hh; split at hh
  · obtain ⟨l, rfl, hh1⟩ := onSps_inv hh
    have hk := Option.some.inj hh1; subst hk; exact k_compiled _
  · cases hh
theorem x_compiled (l : Sps) : cf_compiled [eVs l] = some (cmV l) := by
  simp only [cf_compiled, onSps_e]
end Sc
