import Derived.Test.YtjkhnmhbbjgenaaEngS9
import Derived.Test.YtjkhnmhbbjgenaaS20
open Go Go.Proofs Eng
set_option maxRecDepth 100000
set_option linter.unusedSimpArgs false
set_option linter.unusedVariables false
def a67 : AC := .seq (.ops false [] [⟨some 2, .box 37 2 1 true, [.t 0], none⟩, ⟨some 3, .box 37 2 1 true, [.t 1], none⟩, ⟨some 4, .p (.mov), [.c (.nilslice)], none⟩, ⟨some 5, .p (.mov), [.c (.int .i64 0)], none⟩]) (.seq (.seq (.ops true [] [⟨some 7, .load 2 true, [.t 2], none⟩, ⟨some 8, .call 91, [.t 7], none⟩, ⟨some 9, .load 2 true, [.t 3], none⟩, ⟨some 10, .call 91, [.t 9], none⟩, ⟨some 11, .fbs 1, [.t 8, .t 10], none⟩, ⟨some 12, .call 86, [.t 11], none⟩, ⟨some 6, .p (.mov), [.t 12], none⟩]) (.seq (.ops false [] [⟨some 13, .p (.mov), [.t 6], none⟩, ⟨some 14, .p (.binI .neq), [.t 13, .c (.int .i64 0)], none⟩]) (.cond (.t 14) (.seq (.ops false [] [⟨some 15, .p (.mov), [.t 6], none⟩, ⟨some 4, .p (.mov), [.c (.nilslice)], none⟩, ⟨some 5, .p (.mov), [.t 15], none⟩]) (.ret)) (.skip)))) (.seq (.ops false [] [⟨some 16, .load 2 true, [.t 2], none⟩, ⟨some 17, .load 2 true, [.t 3], none⟩, ⟨some 18, .call 114, [.t 16, .t 17], none⟩, ⟨some 19, .call 113, [.t 18], none⟩, ⟨some 4, .p (.mov), [.t 19], none⟩, ⟨some 5, .p (.mov), [.c (.int .i64 0)], none⟩]) (.ret)))
theorem c67 : FnC Try.prog 67 20 a67 [.tmp 4, .tmp 5] := ⟨Try.call67, _, _, Try.func67, rfl, by kernel_rfl, by kernel_rfl, rfl⟩
def a113 : AC := .seq (.ops false [] [⟨some 2, .p (.mov), [.c (.nilslice)], none⟩]) (.seq (.ops false [] [⟨some 3, .p (.mov), [.t 0], none⟩, ⟨some 4, .call 129, [.c (.nilslice), .t 3], none⟩, ⟨some 2, .p (.mov), [.t 4], none⟩]) (.ret))
theorem c113 : FnC Try.prog 113 5 a113 [.tmp 2] := ⟨Try.call113, _, _, Try.func113, rfl, by kernel_rfl, by kernel_rfl, rfl⟩
def a129 : AC := .seq (.ops false [] [⟨some 2, .box 98 1 1 false, [.t 0], none⟩, ⟨some 4, .p (.mov), [.c (.nilslice)], none⟩]) (.seq (.seq (.ops false [] [⟨some 6, .p (.mov), [.t 1], none⟩]) (.block 0 (.rf (.t 6) [7] (.ops false [] [⟨some 5, .alloc 37 2 [.agg [.int .i64 0, .int .i64 0]], [], none⟩, ⟨none, .store 2 true, [.t 5, .t 7], none⟩]) (.block 1 (.ops false [] [⟨some 8, .load 1 false, [.t 2], none⟩, ⟨some 9, .load 2 true, [.t 5], none⟩, ⟨some 10, .fbs 2, [.t 9], none⟩, ⟨some 11, .app 37 2 16, [.t 8, .t 10], none⟩, ⟨none, .store 1 false, [.t 2, .t 11], none⟩]))))) (.seq (.ops false [] [⟨some 12, .load 1 false, [.t 2], none⟩, ⟨some 4, .p (.mov), [.t 12], none⟩]) (.ret)))
theorem c129 : FnC Try.prog 129 13 a129 [.tmp 4] := ⟨Try.call129, _, _, Try.func129, rfl, by kernel_rfl, by kernel_rfl, rfl⟩
namespace Sc
/-! the way, as a list -/
def Ja : List Dr → List HEnt
  | [] => [⟨1, 1, .rows 98 1 [.nilslice]⟩]
  | d :: r => [⟨r.length + r.length + 3, 3, .rows 37 2 ((d :: r).map eDr)⟩, ⟨1, 1, .rows 98 1 [.slice (r.length + r.length + 3) 2 0 (r.length + 1)]⟩]
theorem Ja_inj : ∀ (a b : List Dr), Ja a = Ja b → a = b
  | [], [], _ => rfl
  | [], _ :: _, h => by simp [Ja] at h
  | _ :: _, [], h => by simp [Ja] at h
  | x :: r, y :: q, h => by
    simp only [Ja, List.cons.injEq, HEnt.mk.injEq, ABlk.rows.injEq, true_and] at h
    exact map_inj eDr_inj _ _ h.1.2
def sta (o : List Dr) : List AV → List Dr × Jk
  | [.agg [.int .i64 a, .int .i64 e]] => (o ++ [⟨a, e⟩], .nx)
  | _ => (o, .nx)
theorem sta_e (o : List Dr) (d : Dr) : sta o (eW d) = (o ++ [d], .nx) := rfl
theorem foldS_sta : ∀ (l o : List Dr), foldS sta o (l.map eW) = (o ++ l, .nx)
  | [], o => by simp [foldS]
  | d :: l, o => by
    rw [List.map_cons, foldS, sta_e]
    show foldS sta (o ++ [d]) (l.map eW) = _
    rw [foldS_sta l (o ++ [d]), List.append_assoc]; rfl
theorem l_AppendSeqD (a b : Dr) (ha : drR a) (hb : drR b) : LOk P 129 [.nilslice, .fn 130 [] [.ptr 0 2 0 0, .vp [eDr b] 0 0]] [⟨0, 0, .rows 37 2 [eDr a]⟩] 1 (.vs ((wayL a b).map eDr)) [] 1 := by
  have hwl := wayL_len ha hb
  refine c129.lok (Cor.post (Cor.run (noC_good _) (noHx_good _) hm ?_))
  simp +contextual -implicitDefEqProofs (maxSteps := 2000000) only [bg_eq, a129, ruH, ruB, Int.reduceLT, Int.reduceLE, Int.reduceAdd, Int.reduceSub, Int.reduceMul, Int.reduceNeg, Int.reduceToNat, Int.reduceEq, Int.reduceNe, Int.reduceTDiv, Int.reduceTMod, implies_true, putL, appN, appX, appC, Eng.Fi, reduceCtorEq, exists_eq_left', exists_eq_left, if_true, if_false, List.replicate, Nat.reduceAdd, Nat.reduceSub, Nat.reduceMul, Nat.reduceLeDiff, Nat.reduceLT, Nat.reduceEqDiff]
  refine Cor.rangeO (noC_good _) (noHx_good _) hm (fun _ _ _ _ => rfl) (wO 0 a b) Ja (fun j _ => j + j + 3) (fun j _ => j + j + 4) ((wayL a b).length + (wayL a b).length + 3) sta (fun j o => o.length = j) (x0 := []) rfl (sqW a b 0 ha hb) ?_ (fun _ _ => rfl) ?_ ?_ rfl (fun j _ => by omega) ?_ rfl Ja_inj ?_ ?_ rfl rfl ?_ ?_ ?_ ?_
  · intro e he
    simp only [wO, Ja, List.mem_append, List.mem_cons, List.not_mem_nil, or_false] at he ⊢
    rcases he with rfl | rfl
    · right; rfl
    · left; rfl
  · intro j e he
    simp only [wO, List.mem_singleton] at he
    subst he; simp
  · intro o j e he e' he'
    simp only [wO, List.mem_singleton] at he
    subst he
    cases o with
    | nil => simp only [Ja, List.mem_cons, List.not_mem_nil, or_false] at he'; subst he'; simp
    | cons d r => simp only [Ja, List.mem_cons, List.not_mem_nil, or_false] at he'; rcases he' with rfl | rfl <;> simp
  · intro j o hj
    rw [List.length_map] at hj
    show j + j + 3 ≤ _
    omega
  · intro j j' o v h1 h2 _ _
    show j + j + 4 = j' + j' + 4
    omega
  · intro o e he
    cases o with
    | nil => simp only [Ja, List.mem_cons, List.not_mem_nil, or_false] at he; subst he; simp
    | cons d r => simp only [Ja, List.mem_cons, List.not_mem_nil, or_false] at he; rcases he with rfl | rfl <;> simp
  · intro v hv
    obtain ⟨p, _, rfl⟩ := List.mem_map.1 hv
    rfl
  · intro j v o hj ho _
    obtain ⟨d, hd, rfl⟩ := List.mem_map.1 (List.mem_of_getElem? hj)
    rw [sta_e]; simp only [List.length_append, List.length_cons, List.length_nil]; omega
  · intro j v o hj ho oR oB f go
    have hjl : j < ((wayL a b).map eW).length := (List.getElem?_eq_some_iff.1 hj).1
    rw [List.length_map] at hjl
    obtain ⟨d, hd, rfl⟩ := List.mem_map.1 (List.mem_of_getElem? hj)
    simp only [sta_e] at go ⊢
    cases o with
    | nil =>
      simp only [List.length_nil] at ho
      subst ho
      have m1 : (1 ≤ maxLen) = True := mx (by omega)
      simp +contextual -implicitDefEqProofs (maxSteps := 2000000) only [wO, Ja, eW, rs_nil, rs_t, rs_f, ag_nils, ag_sl, ag_vs, ag_str, ag_ptr, ag_nilp, ag_vp, ag_fun, m1, ruH, ruB, Int.reduceLT, Int.reduceLE, Int.reduceAdd, Int.reduceSub, Int.reduceMul, Int.reduceNeg, Int.reduceToNat, Int.reduceEq, Int.reduceNe, Int.reduceTDiv, Int.reduceTMod, implies_true, putL, appN, appX, appC, Eng.Fi, reduceCtorEq, exists_eq_left', exists_eq_left, if_true, if_false, List.replicate, Nat.reduceAdd, Nat.reduceSub, Nat.reduceMul, Nat.reduceLeDiff, Nat.reduceLT, Nat.reduceEqDiff]
      refine go _ [.any, .any, .any, .any, .any, .any, .any, .any, .any, .any, .any, .any, .any] (Wkn.trans (Wkn.sub (hp2 := [⟨2, 2, .obj oB⟩, ⟨0, 0, .rows 37 2 [eDr (wAt a b 0)]⟩, ⟨5, 5, .rows 37 2 [eDr d]⟩, ⟨1, 1, .rows 98 1 [.slice 5 2 0 1]⟩]) ?_) (Wkn.to ⟨3, [(5, 3)], [], 4, []⟩ rfl ?_ ?_))
      · intro e he
        simp only [List.mem_cons, List.not_mem_nil, or_false] at he ⊢
        rcases he with rfl | rfl | rfl | rfl <;> simp
      · simp [Wk.ok, idg, Wk.isK, Wk.isF, nodupN, memN, assoc]
      · simp [Wk.st, keepT, memN, Wk.fate, Wk.fate0, assoc, getE, Wk.hp, ABlk.sub, sub1, subs, wO, Ja]
    | cons x r =>
      simp only [List.length_cons] at ho
      have hj2 : r.length + 1 = j := ho
      have n1 : j + j + 3 = r.length + r.length + 5 := by omega
      have n2 : j + j + 4 = r.length + r.length + 6 := by omega
      have e3 : Ja ((x :: r) ++ [d]) = [⟨r.length + r.length + 5, 3, .rows 37 2 (eDr x :: (r.map eDr ++ [eDr d]))⟩, ⟨1, 1, .rows 98 1 [.slice (r.length + r.length + 5) 2 0 (r.length + 1 + 1)]⟩] := by
        simp only [List.cons_append, Ja, List.length_append, List.length_cons, List.length_nil, Nat.zero_add, List.map_cons, List.map_append, List.map_nil]
        rw [show r.length + 1 + (r.length + 1) + 3 = r.length + r.length + 5 by omega]
      have e4 : Ja (x :: r) = [⟨r.length + r.length + 3, 3, .rows 37 2 (eDr x :: r.map eDr)⟩, ⟨1, 1, .rows 98 1 [.slice (r.length + r.length + 3) 2 0 (r.length + 1)]⟩] := rfl
      have m1 : (r.length + 1 + 1 ≤ maxLen) = True := mx (by omega)
      have m2 : ((r.length + 1 + 1) * 16 ≤ 140737488355328) = True := by simp only [eq_iff_iff, iff_true]; omega
      have t0 : (r.map eDr).length = r.length := by simp
      have t1 : (r.length ≤ (r.map eDr).length) = True := by simp
      have t2 : (r.map eDr).take r.length = r.map eDr := by rw [List.take_of_length_le]; simp
      have hrv : ∀ φ, subs φ (r.map eDr ++ [eDr d]) = r.map eDr ++ [eDr d] := fun φ => by
        have := free_Dr φ (r ++ [d])
        rwa [List.map_append] at this
      rw [n1, n2, e3] at go
      rw [n1, e4]
      clear n1 n2 hj hd hj2 ho e3 e4
      generalize r.length + r.length = k at *
      generalize r.length = n at *
      generalize r.map eDr = rv at *
      simp +contextual -implicitDefEqProofs (maxSteps := 2000000) only [wO, eW, rs_nil, rs_t, rs_f, ag_nils, ag_sl, ag_vs, ag_str, ag_ptr, ag_nilp, ag_vp, ag_fun, t0, t1, t2, m1, m2, Nat.le_refl, Nat.add_left_cancel_iff, Nat.add_assoc, ruH, ruB, Int.reduceLT, Int.reduceLE, Int.reduceAdd, Int.reduceSub, Int.reduceMul, Int.reduceNeg, Int.reduceToNat, Int.reduceEq, Int.reduceNe, Int.reduceTDiv, Int.reduceTMod, implies_true, putL, appN, appX, appC, Eng.Fi, reduceCtorEq, exists_eq_left', exists_eq_left, if_true, if_false, List.replicate, Nat.reduceAdd, Nat.reduceSub, Nat.reduceMul, Nat.reduceLeDiff, Nat.reduceLT, Nat.reduceEqDiff]
      refine go _ [.any, .any, .any, .any, .any, .any, .any, .any, .any, .any, .any, .any, .any] (Wkn.trans (Wkn.sub (hp2 := [⟨2, 2, .obj oB⟩, ⟨0, 0, .rows 37 2 [eDr (wAt a b j)]⟩, ⟨k + 7, 3, .rows 37 2 (eDr x :: (rv ++ [eDr d]))⟩, ⟨1, 1, .rows 98 1 [.slice (k + 7) 2 0 (n + 2)]⟩]) ?_) (Wkn.to ⟨k + 5, [(k + 7, k + 5)], [], k + 6, []⟩ rfl ?_ ?_))
      · intro e he
        simp only [List.mem_cons, List.not_mem_nil, or_false] at he ⊢
        rcases he with rfl | rfl | rfl | rfl <;> simp
      · simp [Wk.ok, idg, Wk.isK, Wk.isF, nodupN, memN, assoc]
      · simp [Wk.st, keepT, memN, Wk.fate, Wk.fate0, assoc, getE, Wk.hp, ABlk.sub, sub1, subs, wO, hrv]
  · rw [foldS_sta, List.nil_append]
    have e0 : wayL a b = a :: (azL (turnS a.az b.az) a.el (wN1 a b) a.az ++ elL (tiltS a.el b.el) (wZ a b) (wN2 a b) a.el) := rfl
    rw [e0]
    generalize azL (turnS a.az b.az) a.el (wN1 a b) a.az ++ elL (tiltS a.el b.el) (wZ a b) (wN2 a b) a.el = r at *
    show R P _ _ 1 .normal _ _ _
    simp +contextual -implicitDefEqProofs (maxSteps := 2000000) only [Ja, FinL, ruH, ruB, Int.reduceLT, Int.reduceLE, Int.reduceAdd, Int.reduceSub, Int.reduceMul, Int.reduceNeg, Int.reduceToNat, Int.reduceEq, Int.reduceNe, Int.reduceTDiv, Int.reduceTMod, implies_true, putL, appN, appX, appC, Eng.Fi, reduceCtorEq, exists_eq_left', exists_eq_left, if_true, if_false, List.replicate, Nat.reduceAdd, Nat.reduceSub, Nat.reduceMul, Nat.reduceLeDiff, Nat.reduceLT, Nat.reduceEqDiff]
    have t1 : (a :: r).map eDr = (eDr a :: r.map eDr) := rfl
    refine ⟨⟨[.any, .any, .any, .any, .vs ((a :: r).map eDr), .any, .any, .any, .any, .any, .any, .any, .any], [], 1⟩, Wkn.to ⟨1, [], [r.length + r.length + 3], 1, [4]⟩ rfl ?_ ?_, _, rfl, rfl, rfl, rfl⟩
    · simp [Wk.ok, idg, Wk.isK, Wk.isF, nodupN, memN, assoc]
    · have hl : ((a :: r).map eDr).length = r.length + 1 := by simp
      have hs := free_Dr (fun _ => .gone) (a :: r)
      have t2 : (r.map eDr).take r.length = r.map eDr := by rw [List.take_of_length_le]; simp
      simp [Wk.st, keepT, memN, Wk.fate, Wk.fate0, assoc, getE, Wk.hp, ABlk.sub, sub1, subs, free_Dr, t2]
def apH : List AV → List HEnt → Nat → Option (AV × List HEnt × Nat)
  | [.nilslice, .fn 130 [] [.ptr 0 2 0 0, .vp [.agg [.int .i64 b1, .int .i64 b2]] 0 0]], [⟨0, 0, .rows 37 2 [.agg [.int .i64 a1, .int .i64 a2]]⟩], 1 => if drR ⟨a1, a2⟩ ∧ drR ⟨b1, b2⟩ then some (.vs ((wayL ⟨a1, a2⟩ ⟨b1, b2⟩).map eDr), [], 1) else none
  | _, _, _ => none
theorem h_ap : Hn P 129 apH := fun args H nx v hp' nx' h => by
  unfold apH at h
  split at h
  · split at h
    · rename_i hc
      have h := Option.some.inj h
      simp only [Prod.mk.injEq] at h
      obtain ⟨rfl, rfl, rfl⟩ := h
      exact l_AppendSeqD ⟨_, _⟩ ⟨_, _⟩ hc.1 hc.2
    · cases h
  · cases h
theorem y_ap (a b : Dr) (h : drR a ∧ drR b) : apH [.nilslice, .fn 130 [] [.ptr 0 2 0 0, .vp [.agg [I b.az, I b.el]] 0 0]] [⟨0, 0, .rows 37 2 [.agg [I a.az, I a.el]]⟩] 1 = some (.vs ((wayL a b).map eDr), [], 1) := if_pos h
theorem l_CollectD (a b : Dr) (h : drR a ∧ drR b) : LOk P 113 [.fn 130 [] [.ptr 0 2 0 0, .vp [eDr b] 0 0]] [⟨0, 0, .rows 37 2 [eDr a]⟩] 1 (.vs ((wayL a b).map eDr)) [] 1 := by
  have y := y_ap a b h
  refine c113.lok (Cor.run (noC_good _) (addH_good h_ap (noHx_good _)) hm ?_) (fun G => YH_add (by decide) (YH_no _ G))
  simp +contextual -implicitDefEqProofs (maxSteps := 2000000) only [bg_eq, a113, y, FinL, ruH, ruB, Int.reduceLT, Int.reduceLE, Int.reduceAdd, Int.reduceSub, Int.reduceMul, Int.reduceNeg, Int.reduceToNat, Int.reduceEq, Int.reduceNe, Int.reduceTDiv, Int.reduceTMod, implies_true, putL, appN, appX, appC, Eng.Fi, reduceCtorEq, exists_eq_left', exists_eq_left, if_true, if_false, List.replicate, Nat.reduceAdd, Nat.reduceSub, Nat.reduceMul, Nat.reduceLeDiff, Nat.reduceLT, Nat.reduceEqDiff]
def coH : List AV → List HEnt → Nat → Option (AV × List HEnt × Nat)
  | [.fn 130 [] [.ptr 0 2 0 0, .vp [.agg [.int .i64 b1, .int .i64 b2]] 0 0]], [⟨0, 0, .rows 37 2 [.agg [.int .i64 a1, .int .i64 a2]]⟩], 1 => if drR ⟨a1, a2⟩ ∧ drR ⟨b1, b2⟩ then some (.vs ((wayL ⟨a1, a2⟩ ⟨b1, b2⟩).map eDr), [], 1) else none
  | _, _, _ => none
theorem h_co : Hn P 113 coH := fun args H nx v hp' nx' h => by
  unfold coH at h
  split at h
  · split at h
    · rename_i hc
      have h := Option.some.inj h
      simp only [Prod.mk.injEq] at h
      obtain ⟨rfl, rfl, rfl⟩ := h
      exact l_CollectD ⟨_, _⟩ ⟨_, _⟩ hc
    · cases h
  · cases h
theorem y_co (a b : Dr) (h : drR a ∧ drR b) : coH [.fn 130 [] [.ptr 0 2 0 0, .vp [.agg [I b.az, I b.el]] 0 0]] [⟨0, 0, .rows 37 2 [.agg [I a.az, I a.el]]⟩] 1 = some (.vs ((wayL a b).map eDr), [], 1) := if_pos h
def wfE (a b : Dr) : Int := firstE [drE a, drE b]
def wfV (a b : Dr) : AV := if wfE a b = 0 then .tup [.vs ((wayL a b).map eDr), I 0] else .tup [.vs [], I (wfE a b)]
theorem k_WayOf (a b : Dr) : FOk P 67 [eDr a, eDr b] (wfV a b) := by
  have y1 := x_directionErr a.az a.el
  have y2 := x_directionErr b.az b.el
  by_cases h : wfE a b = 0
  · have hv : wfV a b = .tup [.vs ((wayL a b).map eDr), I 0] := if_pos h
    rw [hv]
    have h' := h
    unfold wfE at h'
    have hz := firstE_zero h'
    have y := y_co a b ⟨drE_zero (hz (drE a) (by simp)), drE_zero (hz (drE b) (by simp))⟩
    have hg := addH_good h_way (addH_good h_co (noHx_good P))
    refine c67.fok (y := YH P (addH 114 wayH (addH 113 coH noHx))) rfl ?_ (fun G => YH_add (by decide) (YH_add (by decide) (YH_no _ G)))
    rw [bg_eq]
    refine Cor.seq (Cor.run (noC_good _) hg hm ?_)
    simp +contextual -implicitDefEqProofs (maxSteps := 2000000) only [eThen_normal, ruH, ruB, Int.reduceLT, Int.reduceLE, Int.reduceAdd, Int.reduceSub, Int.reduceMul, Int.reduceNeg, Int.reduceToNat, Int.reduceEq, Int.reduceNe, Int.reduceTDiv, Int.reduceTMod, implies_true, putL, appN, appX, appC, Eng.Fi, reduceCtorEq, exists_eq_left', exists_eq_left, if_true, if_false, List.replicate, Nat.reduceAdd, Nat.reduceSub, Nat.reduceMul, Nat.reduceLeDiff, Nat.reduceLT, Nat.reduceEqDiff]
    refine Cor.wk (s2 := ⟨[.any, .any, .vp [eDr a] 0 0, .vp [eDr b] 0 0, .any, .any, .any, .any, .any, .any, .any, .any, .any, .any, .any, .any, .any, .any, .any, .any], [], 0⟩) (Wkn.to ⟨0, [], [0, 1], 0, [2, 3]⟩ rfl rfl (by simp [Wk.st, keepT, memN, Wk.fate, Wk.fate0, assoc, getE, Wk.hp, ABlk.sub, sub1, subs])) ?_
    refine Cor.run (addC_good g_first (addC_good g_directionErr (noC_good _))) hg hm ?_
    simp +contextual -implicitDefEqProofs (maxSteps := 2000000) only [y1, y2, x_first, y_first, h', y_way, y, free_Dr, ruH, ruB, Int.reduceLT, Int.reduceLE, Int.reduceAdd, Int.reduceSub, Int.reduceMul, Int.reduceNeg, Int.reduceToNat, Int.reduceEq, Int.reduceNe, Int.reduceTDiv, Int.reduceTMod, implies_true, putL, appN, appX, appC, Eng.Fi, reduceCtorEq, exists_eq_left', exists_eq_left, if_true, if_false, List.replicate, Nat.reduceAdd, Nat.reduceSub, Nat.reduceMul, Nat.reduceLeDiff, Nat.reduceLT, Nat.reduceEqDiff]
  · have hv : wfV a b = .tup [.vs [], I (wfE a b)] := if_neg h
    rw [hv]
    have h' := h
    unfold wfE at h'
    refine c67.fok rfl (Cor.run (addC_good g_first (addC_good g_directionErr (noC_good _))) (noHx_good _) hm ?_)
    simp +contextual -implicitDefEqProofs (maxSteps := 2000000) only [bg_eq, a67, y1, y2, x_first, y_first, h', wfE, not_false_eq_true, ruB, rh_no, Int.reduceLT, Int.reduceLE, Int.reduceAdd, Int.reduceSub, Int.reduceMul, Int.reduceNeg, Int.reduceToNat, Int.reduceEq, Int.reduceNe, Int.reduceTDiv, Int.reduceTMod, implies_true, putL, appN, appX, appC, Eng.Fi, reduceCtorEq, exists_eq_left', exists_eq_left, if_true, if_false, List.replicate, Nat.reduceAdd, Nat.reduceSub, Nat.reduceMul, Nat.reduceLeDiff, Nat.reduceLT, Nat.reduceEqDiff]
def cf_WayOf : List AV → Option AV
  | [.agg [.int .i64 a_az, .int .i64 a_el], .agg [.int .i64 b_az, .int .i64 b_el]] => some (wfV (⟨a_az, a_el⟩ : Dr) (⟨b_az, b_el⟩ : Dr))
  | _ => none
theorem g_WayOf : Fn P 67 cf_WayOf := fun args v hh => by
  unfold cf_WayOf at hh; split at hh
  · have hk := Option.some.inj hh; subst hk; exact k_WayOf ⟨_, _⟩ ⟨_, _⟩
  · cases hh
theorem x_WayOf (a : Dr) (b : Dr) : cf_WayOf [.agg [I a.az, I a.el], .agg [I b.az, I b.el]] = some (wfV a b) := by
  rfl
end Sc
