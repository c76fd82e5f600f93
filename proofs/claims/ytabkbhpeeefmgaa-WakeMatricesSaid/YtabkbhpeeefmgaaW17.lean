import Derived.Test.YtabkbhpeeefmgaaEngS9
import Derived.Test.YtabkbhpeeefmgaaW16
open Go Go.Proofs Eng
set_option maxRecDepth 100000
set_option linter.unusedSimpArgs false
set_option linter.unusedVariables false
def a55 : AC := .seq (.ops false [] [⟨some 1, .box 102 10 1 true, [.t 0], none⟩, ⟨some 2, .alloc 108 4 [.agg [.int .i64 0, .int .i64 0, .int .i64 0, .int .i64 0]], [], none⟩, ⟨some 3, .p (.mov), [.c (.int .i64 0)], none⟩, ⟨some 4, .p (.mov), [.c (.int .i64 0)], none⟩]) (.seq (.seq (.ops false [] [⟨some 10, .load 10 true, [.t 1], none⟩, ⟨some 11, .call 120, [.t 10], none⟩, ⟨some 5, .p (.mov), [.t 11], none⟩]) (.seq (.ops false [] [⟨some 12, .p (.mov), [.t 5], none⟩, ⟨some 13, .p (.binI .neq), [.t 12, .c (.int .i64 0)], none⟩]) (.cond (.t 13) (.seq (.ops false [] [⟨some 14, .p (.build [.int .i64 0, .int .i64 0, .int .i64 0, .int .i64 0] []), [], none⟩, ⟨some 15, .p (.mov), [.t 5], none⟩, ⟨none, .store 4 true, [.t 2, .t 14], none⟩, ⟨some 3, .p (.mov), [.c (.int .i64 0)], none⟩, ⟨some 4, .p (.mov), [.t 15], none⟩]) (.ret)) (.skip)))) (.seq (.ops false [] [⟨some 6, .alloc 108 4 [.agg [.int .i64 0, .int .i64 0, .int .i64 0, .int .i64 0]], [], none⟩]) (.seq (.ops false [] [⟨some 7, .alloc 3 1 [.int .i64 0], [], none⟩, ⟨none, .store 1 false, [.t 7, .c (.int .i64 (-1))], none⟩]) (.seq (.seq (.ops false [] [⟨some 16, .load 10 true, [.t 1], none⟩, ⟨some 17, .call 121, [.t 16], none⟩]) (.block 0 (.rf (.t 17) [18, 19] (.seq (.ops false [] [⟨some 8, .alloc 108 4 [.agg [.int .i64 0, .int .i64 0, .int .i64 0, .int .i64 0]], [], none⟩, ⟨none, .store 4 true, [.t 8, .t 18], none⟩]) (.ops false [] [⟨some 9, .p (.mov), [.t 19], none⟩])) (.block 1 (.seq (.ops false [] [⟨some 20, .load 1 false, [.t 7], none⟩, ⟨some 21, .p (.binI .lss), [.t 20, .c (.int .i64 0)], none⟩, ⟨some 22, .p (.mov), [.t 21], none⟩, ⟨some 23, .p (.mov), [.t 9], some (22, false)⟩, ⟨some 24, .load 1 false, [.t 7], some (22, false)⟩, ⟨some 25, .p (.binI .lss), [.t 23, .t 24], some (22, false)⟩, ⟨some 26, .p (.pick), [.t 22, .c (.bool true), .t 25], none⟩]) (.cond (.t 26) (.ops false [] [⟨some 27, .load 4 true, [.t 8], none⟩, ⟨some 28, .p (.mov), [.t 9], none⟩, ⟨none, .store 4 true, [.t 6, .t 27], none⟩, ⟨none, .store 1 false, [.t 7, .t 28], none⟩]) (.skip))))))) (.seq (.ops true [(1, 2)] [⟨some 29, .load 4 true, [.t 6], none⟩, ⟨some 30, .load 1 false, [.t 7], none⟩, ⟨none, .store 4 true, [.t 2, .t 29], none⟩, ⟨some 3, .p (.mov), [.t 30], none⟩, ⟨some 4, .p (.mov), [.c (.int .i64 0)], none⟩]) (.ret))))))
theorem c55 : FnC Try.prog 55 31 a55 [.cell 2 4 true, .tmp 3, .tmp 4] := ⟨Try.call55, _, _, Try.func55, rfl, by kernel_rfl, by kernel_rfl, rfl⟩
def a121 : AC := .seq (.ops false [] [⟨some 1, .box 102 10 1 true, [.t 0], none⟩, ⟨some 2, .p (.mov), [.c (.nilfn)], none⟩]) (.seq (.ops false [] [⟨some 3, .p (.mkfn 151 0), [.t 1], none⟩, ⟨some 2, .p (.mov), [.t 3], none⟩]) (.ret))
theorem c121 : FnC Try.prog 121 4 a121 [.tmp 2] := ⟨Try.call121, _, _, Try.func121, rfl, by kernel_rfl, by kernel_rfl, rfl⟩
namespace Wa
theorem k_pairs (x : Sr) : FOk P 121 [eSr x] (.fn 151 [] [.vp [eSr x] 0 0]) := by
  refine c121.fok (by simp only [subs, sub1, free_I, free_Rg]) (Cor.post (Cor.run (noC_good _) (noHx_good _) hm ?_))
  simp +contextual -implicitDefEqProofs (maxSteps := 2000000) only [bg_eq, a121, ruB, rh_no, Int.reduceLT, Int.reduceLE, Int.reduceAdd, Int.reduceSub, Int.reduceMul, Int.reduceNeg, Int.reduceToNat, Int.reduceEq, Int.reduceNe, Int.reduceTDiv, Int.reduceTMod, implies_true, putL, appN, appX, appC, Eng.Fi, reduceCtorEq, exists_eq_left', exists_eq_left, if_true, if_false, List.replicate, Nat.reduceAdd, Nat.reduceSub, Nat.reduceMul, Nat.reduceLeDiff, Nat.reduceLT, Nat.reduceEqDiff]
  refine ⟨_, Wkn.of ⟨0, [], [0], 1, [2]⟩ rfl, _, rfl, ?_, ?_⟩
  · show some (AV.fn 151 [] [.vp [sub1 _ (eSr x)] 0 0]) = _
    rw [free_Sr]
  · show AV.fn 151 [] [.vp [sub1 _ (eSr x)] 0 0] = _
    rw [free_Sr]
noncomputable def cf_pairs : List AV → Option AV
  | [x_v] => onSr x_v fun x => some (.fn 151 [] [.vp [eSr x] 0 0])
  | _ => none
theorem g_pairs : Fn P 121 cf_pairs := fun args v hh => by
  unfold cf_pairs at hh; split at hh
  · obtain ⟨x, rfl, hh1⟩ := onSr_inv hh
    have hk := Option.some.inj hh1; subst hk; exact k_pairs _
  · cases hh
theorem x_pairs (x : Sr) : cf_pairs [eSr x] = some (.fn 151 [] [.vp [eSr x] 0 0]) := by
  simp only [cf_pairs, onSr_e]
theorem foldS_nx {β : Type} {st : β → List AV → β × Jk} (h : ∀ a v, (st a v).2 = .nx) : ∀ (vs : List (List AV)) (a : β), foldS st a vs = (vs.foldl (fun a v => (st a v).1) a, .nx)
  | [], a => rfl
  | v :: vs, a => by
    rw [foldS_cons, h]
    exact foldS_nx h vs _
def dY : List AV → Pa × Int
  | [.agg [.int _ y, .int _ z, .int _ h, .int _ s], .int _ n] => (⟨y, z, h, s⟩, n)
  | _ => (⟨0, 0, 0, 0⟩, 0)
theorem dY_e (x : Sr) (p : Pa) : dY (eY x p) = (p, mfV p x.su x.rd) := rfl
def stB (c q : Pa × Int) : Pa × Int := if c.2 < 0 ∨ q.2 < c.2 then q else c
def stb (c : Pa × Int) (v : List AV) : (Pa × Int) × Jk := (stB c (dY v), .nx)
def zPa : Pa := ⟨0, 0, 0, 0⟩
def Jbi (c : Pa × Int) : List HEnt := [⟨2, 2, .rows 3 1 [I c.2]⟩, ⟨1, 1, .rows 108 4 [ePa c.1]⟩, ⟨0, 0, .rows 108 4 [ePa zPa]⟩]
theorem Jbi_inj (a b : Pa × Int) (h : Jbi a = Jbi b) : a = b := by
  obtain ⟨⟨a1, a2, a3, a4⟩, a5⟩ := a
  obtain ⟨⟨b1, b2, b3, b4⟩, b5⟩ := b
  simp only [Jbi, List.cons.injEq, HEnt.mk.injEq, ABlk.rows.injEq, AV.agg.injEq, AV.int.injEq, true_and, and_true] at h
  obtain ⟨rfl, rfl, rfl, rfl, rfl⟩ := h
  rfl
def bsL (x : Sr) : Pa × Int := (prL x).foldl (fun c p => stB c (p, mfV p x.su x.rd)) (zPa, -1)
def biV (x : Sr) : AV := if srE x = 0 then .tup [ePa (bsL x).1, I (bsL x).2, I 0] else .tup [ePa zPa, I 0, I (srE x)]
def S_bi (x : Sr) : AState := ⟨[.any, .vp [eSr x] 0 0, .ptr 0 4 0 0, I 0, I 0, .any, .any, .any, .any, .any, .any, .any, .any, .any, .any, .any, .any, .any, .any, .any, .any, .any, .any, .any, .any, .any, .any, .any, .any, .any, .any], [⟨0, 0, .rows 108 4 [ePa zPa]⟩], 1⟩
def S_bi2 (x : Sr) : AState := ⟨[.any, .vp [eSr x] 0 0, .ptr 0 4 0 0, .any, .any, .any, .ptr 1 4 0 0, .ptr 2 1 0 0, .any, .any, .any, .any, .any, .any, .any, .any, .any, .any, .any, .any, .any, .any, .any, .any, .any, .any, .any, .any, .any, .any, .any], Jbi (zPa, -1), 3⟩
theorem k_BestIn (x : Sr) : FOk P 55 [eSr x] (biV x) := by
  have y1 := x_CheckSearch x
  have y2 := x_pairs x
  refine c55.fok (y := YH P noHx) (by simp only [subs, sub1, free_I, free_Rg]) ?_
  rw [bg_eq]
  refine Cor.seq (Cor.run (noC_good _) (noHx_good _) hm ?_)
  simp +contextual -implicitDefEqProofs (maxSteps := 2000000) only [eThen_normal, ruB, rh_no, Int.reduceLT, Int.reduceLE, Int.reduceAdd, Int.reduceSub, Int.reduceMul, Int.reduceNeg, Int.reduceToNat, Int.reduceEq, Int.reduceNe, Int.reduceTDiv, Int.reduceTMod, implies_true, putL, appN, appX, appC, Eng.Fi, reduceCtorEq, exists_eq_left', exists_eq_left, if_true, if_false, List.replicate, Nat.reduceAdd, Nat.reduceSub, Nat.reduceMul, Nat.reduceLeDiff, Nat.reduceLT, Nat.reduceEqDiff]
  refine Cor.wk (s2 := S_bi x) (Wkn.to ⟨0, [(1, 0)], [0], 1, [1, 2, 3, 4]⟩ rfl rfl (by simp [Wk.st, keepT, memN, Wk.fate, Wk.fate0, assoc, getE, Wk.hp, ABlk.sub, sub1, subs, S_bi, free_I, free_Rg, zPa])) ?_
  by_cases h0 : srE x = 0
  · rw [biV, if_pos h0]
    refine Cor.seq (Cor.run (addC_good g_CheckSearch (noC_good _)) (noHx_good _) hm ?_)
    simp +contextual -implicitDefEqProofs (maxSteps := 2000000) only [S_bi, y1, h0, eThen_normal, not_true_eq_false, ruB, rh_no, Int.reduceLT, Int.reduceLE, Int.reduceAdd, Int.reduceSub, Int.reduceMul, Int.reduceNeg, Int.reduceToNat, Int.reduceEq, Int.reduceNe, Int.reduceTDiv, Int.reduceTMod, implies_true, putL, appN, appX, appC, Eng.Fi, reduceCtorEq, exists_eq_left', exists_eq_left, if_true, if_false, List.replicate, Nat.reduceAdd, Nat.reduceSub, Nat.reduceMul, Nat.reduceLeDiff, Nat.reduceLT, Nat.reduceEqDiff]
    refine Cor.seq (Cor.run (noC_good _) (noHx_good _) hm ?_)
    simp +contextual -implicitDefEqProofs (maxSteps := 2000000) only [eThen_normal, ruB, rh_no, Int.reduceLT, Int.reduceLE, Int.reduceAdd, Int.reduceSub, Int.reduceMul, Int.reduceNeg, Int.reduceToNat, Int.reduceEq, Int.reduceNe, Int.reduceTDiv, Int.reduceTMod, implies_true, putL, appN, appX, appC, Eng.Fi, reduceCtorEq, exists_eq_left', exists_eq_left, if_true, if_false, List.replicate, Nat.reduceAdd, Nat.reduceSub, Nat.reduceMul, Nat.reduceLeDiff, Nat.reduceLT, Nat.reduceEqDiff]
    refine Cor.seq (Cor.run (noC_good _) (noHx_good _) hm ?_)
    simp +contextual -implicitDefEqProofs (maxSteps := 2000000) only [eThen_normal, ruB, rh_no, Int.reduceLT, Int.reduceLE, Int.reduceAdd, Int.reduceSub, Int.reduceMul, Int.reduceNeg, Int.reduceToNat, Int.reduceEq, Int.reduceNe, Int.reduceTDiv, Int.reduceTMod, implies_true, putL, appN, appX, appC, Eng.Fi, reduceCtorEq, exists_eq_left', exists_eq_left, if_true, if_false, List.replicate, Nat.reduceAdd, Nat.reduceSub, Nat.reduceMul, Nat.reduceLeDiff, Nat.reduceLT, Nat.reduceEqDiff]
    refine Cor.wk (s2 := S_bi2 x) (Wkn.to ⟨0, [(0, 0), (1, 1), (2, 2)], [], 3, [1, 2, 6, 7]⟩ rfl rfl (by simp [Wk.st, keepT, memN, Wk.fate, Wk.fate0, assoc, getE, Wk.hp, ABlk.sub, sub1, subs, free_I, free_Rg, S_bi2, Jbi, zPa])) ?_
    refine Cor.run (addC_good g_pairs (noC_good _)) (noHx_good _) hm ?_
    simp +contextual -implicitDefEqProofs (maxSteps := 2000000) only [S_bi2, y2, ruB, rh_no, Int.reduceLT, Int.reduceLE, Int.reduceAdd, Int.reduceSub, Int.reduceMul, Int.reduceNeg, Int.reduceToNat, Int.reduceEq, Int.reduceNe, Int.reduceTDiv, Int.reduceTMod, implies_true, putL, appN, appX, appC, Eng.Fi, reduceCtorEq, exists_eq_left', exists_eq_left, if_true, if_false, List.replicate, Nat.reduceAdd, Nat.reduceSub, Nat.reduceMul, Nat.reduceLeDiff, Nat.reduceLT, Nat.reduceEqDiff]
    refine Cor.rangeL (addC_good g_pairs (noC_good _)) (noHx_good _) hm (fun _ _ _ _ => rfl) Jbi (fun _ => 4) stb (fun _ _ => True) (x0 := (zPa, -1)) rfl (sqPairs x (srE_z h0)) rfl rfl trivial Jbi_inj ?_ rfl rfl ?_ ?_ (fun _ _ _ _ _ _ => trivial) ?_ ?_
    · intro c e he
      simp only [Jbi, List.mem_cons, List.not_mem_nil, or_false] at he
      rcases he with rfl | rfl | rfl <;> simp
    · intro v hv
      obtain ⟨p, _, rfl⟩ := List.mem_map.1 hv
      rfl
    · intro j c _
      refine ⟨by decide, fun e he => ?_⟩
      simp only [Jbi, List.mem_cons, List.not_mem_nil, or_false] at he
      rcases he with rfl | rfl | rfl <;> exact ⟨⟨by simp, by simp⟩, fun φ _ => rfl⟩
    · intro j v c hj _ oR oB f go
      obtain ⟨p, hp, rfl⟩ := List.mem_map.1 (List.mem_of_getElem? hj)
      simp only [stb, dY_e] at go ⊢
      unfold stB at go
      by_cases c1 : c.2 < 0
      · have c1' := eq_true c1
        rw [if_pos (.inl c1)] at go
        simp +contextual -implicitDefEqProofs (maxSteps := 2000000) only [Jbi, c1', sp_cons, sp_nil, goB_eq, jk_n, jk_r, jk_e, fi_nx, ruB, rh_no, Int.reduceLT, Int.reduceLE, Int.reduceAdd, Int.reduceSub, Int.reduceMul, Int.reduceNeg, Int.reduceToNat, Int.reduceEq, Int.reduceNe, Int.reduceTDiv, Int.reduceTMod, implies_true, putL, appN, appX, appC, Eng.Fi, reduceCtorEq, exists_eq_left', exists_eq_left, if_true, if_false, List.replicate, Nat.reduceAdd, Nat.reduceSub, Nat.reduceMul, Nat.reduceLeDiff, Nat.reduceLT, Nat.reduceEqDiff]
        exact go _ [.any, .any, .any, .any, .any, .any, .any, .any, .any, .any, .any, .any, .any, .any, .any, .any, .any, .any, .any, .any, .any, .any, .any, .any, .any, .any, .any, .any, .any, .any, .any] (Wkn.to ⟨4, [], [], 4, []⟩ rfl rfl (by simp [Wk.st, keepT, memN, Wk.fate, Wk.fate0, assoc, getE, Wk.hp, ABlk.sub, sub1, subs, Jbi, zPa, free_I, free_Rg]))
      · have c1' := eq_false c1
        by_cases c2 : mfV p x.su x.rd < c.2
        · have c2' := eq_true c2
          rw [if_pos (.inr c2)] at go
          simp +contextual -implicitDefEqProofs (maxSteps := 2000000) only [Jbi, c1', c2', sp_cons, sp_nil, goB_eq, jk_n, jk_r, jk_e, fi_nx, ruB, rh_no, Int.reduceLT, Int.reduceLE, Int.reduceAdd, Int.reduceSub, Int.reduceMul, Int.reduceNeg, Int.reduceToNat, Int.reduceEq, Int.reduceNe, Int.reduceTDiv, Int.reduceTMod, implies_true, putL, appN, appX, appC, Eng.Fi, reduceCtorEq, exists_eq_left', exists_eq_left, if_true, if_false, List.replicate, Nat.reduceAdd, Nat.reduceSub, Nat.reduceMul, Nat.reduceLeDiff, Nat.reduceLT, Nat.reduceEqDiff]
          exact go _ [.any, .any, .any, .any, .any, .any, .any, .any, .any, .any, .any, .any, .any, .any, .any, .any, .any, .any, .any, .any, .any, .any, .any, .any, .any, .any, .any, .any, .any, .any, .any] (Wkn.to ⟨4, [], [], 4, []⟩ rfl rfl (by simp [Wk.st, keepT, memN, Wk.fate, Wk.fate0, assoc, getE, Wk.hp, ABlk.sub, sub1, subs, Jbi, zPa, free_I, free_Rg]))
        · have c2' := eq_false c2
          rw [if_neg (fun h => h.elim c1 c2)] at go
          simp +contextual -implicitDefEqProofs (maxSteps := 2000000) only [Jbi, c1', c2', sp_cons, sp_nil, goB_eq, jk_n, jk_r, jk_e, fi_nx, ruB, rh_no, Int.reduceLT, Int.reduceLE, Int.reduceAdd, Int.reduceSub, Int.reduceMul, Int.reduceNeg, Int.reduceToNat, Int.reduceEq, Int.reduceNe, Int.reduceTDiv, Int.reduceTMod, implies_true, putL, appN, appX, appC, Eng.Fi, reduceCtorEq, exists_eq_left', exists_eq_left, if_true, if_false, List.replicate, Nat.reduceAdd, Nat.reduceSub, Nat.reduceMul, Nat.reduceLeDiff, Nat.reduceLT, Nat.reduceEqDiff]
          exact go _ [.any, .any, .any, .any, .any, .any, .any, .any, .any, .any, .any, .any, .any, .any, .any, .any, .any, .any, .any, .any, .any, .any, .any, .any, .any, .any, .any, .any, .any, .any, .any] (Wkn.to ⟨4, [], [], 4, []⟩ rfl rfl (by simp [Wk.st, keepT, memN, Wk.fate, Wk.fate0, assoc, getE, Wk.hp, ABlk.sub, sub1, subs, Jbi, zPa, free_I, free_Rg]))
    · rw [foldS_nx (st := stb) (fun _ _ => rfl)]
      have ef : ((prL x).map (eY x)).foldl (fun a v => (stb a v).1) (zPa, -1) = bsL x := by
        rw [List.foldl_map]
        simp only [stb, dY_e]
        rfl
      rw [ef]
      generalize bsL x = c
      show R P _ noHx 0 .normal _ _ _
      simp +contextual -implicitDefEqProofs (maxSteps := 2000000) only [Jbi, sp_cons, sp_nil, goB_eq, jk_n, jk_r, jk_e, fi_nx, ruB, rh_no, Int.reduceLT, Int.reduceLE, Int.reduceAdd, Int.reduceSub, Int.reduceMul, Int.reduceNeg, Int.reduceToNat, Int.reduceEq, Int.reduceNe, Int.reduceTDiv, Int.reduceTMod, implies_true, putL, appN, appX, appC, Eng.Fi, reduceCtorEq, exists_eq_left', exists_eq_left, if_true, if_false, List.replicate, Nat.reduceAdd, Nat.reduceSub, Nat.reduceMul, Nat.reduceLeDiff, Nat.reduceLT, Nat.reduceEqDiff]
  · rw [biV, if_neg h0]
    refine Cor.run (addC_good g_CheckSearch (noC_good _)) (noHx_good _) hm ?_
    simp +contextual -implicitDefEqProofs (maxSteps := 2000000) only [S_bi, y1, h0, not_false_eq_true, zPa, ruB, rh_no, Int.reduceLT, Int.reduceLE, Int.reduceAdd, Int.reduceSub, Int.reduceMul, Int.reduceNeg, Int.reduceToNat, Int.reduceEq, Int.reduceNe, Int.reduceTDiv, Int.reduceTMod, implies_true, putL, appN, appX, appC, Eng.Fi, reduceCtorEq, exists_eq_left', exists_eq_left, if_true, if_false, List.replicate, Nat.reduceAdd, Nat.reduceSub, Nat.reduceMul, Nat.reduceLeDiff, Nat.reduceLT, Nat.reduceEqDiff]
noncomputable def cf_BestIn : List AV → Option AV
  | [x_v] => onSr x_v fun x => some (biV x)
  | _ => none
theorem g_BestIn : Fn P 55 cf_BestIn := fun args v hh => by
  unfold cf_BestIn at hh; split at hh
  · obtain ⟨x, rfl, hh1⟩ := onSr_inv hh
    have hk := Option.some.inj hh1; subst hk; exact k_BestIn _
  · cases hh
theorem x_BestIn (x : Sr) : cf_BestIn [eSr x] = some (biV x) := by
  simp only [cf_BestIn, onSr_e]
end Wa
