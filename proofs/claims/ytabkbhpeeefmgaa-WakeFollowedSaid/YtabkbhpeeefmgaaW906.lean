import Derived.Test.YtabkbhpeeefmgaaEngS9
import Derived.Test.YtabkbhpeeefmgaaW905
import Derived.Test.YtabkbhpeeefmgaaW903
import Derived.Test.YtabkbhpeeefmgaaEngSH
open Go Go.Proofs Eng
set_option maxRecDepth 100000
set_option linter.unusedSimpArgs false
set_option linter.unusedVariables false
def a39 : AC := .seq (.ops false [] [⟨some 4, .p (.mov), [.c (.bool false)], none⟩]) (.seq (.seq (.ops false [] [⟨some 6, .p (.mov), [.t 0], none⟩, ⟨some 7, .p (.lenS), [.t 6], none⟩, ⟨some 8, .p (.mov), [.t 1], none⟩, ⟨some 9, .p (.lenS), [.t 8], none⟩, ⟨some 10, .p (.binI .neq), [.t 7, .t 9], none⟩]) (.cond (.t 10) (.seq (.ops false [] [⟨some 4, .p (.mov), [.c (.bool false)], none⟩]) (.ret)) (.skip))) (.seq (.seq (.ops false [] [⟨some 5, .p (.mov), [.c (.int .i64 0)], none⟩]) (.block 0 (.loop (.seq (.seq (.ops false [] [⟨some 11, .p (.mov), [.t 5], none⟩, ⟨some 12, .p (.mov), [.t 0], none⟩, ⟨some 13, .p (.lenS), [.t 12], none⟩, ⟨some 14, .p (.binI .lss), [.t 11, .t 13], none⟩]) (.cond (.t 14) (.skip) (.exit 0))) (.seq (.block 1 (.seq (.ops true [] [⟨some 17, .p (.mov), [.t 0], none⟩, ⟨some 18, .p (.mov), [.t 5], none⟩, ⟨some 19, .p (.iaddrS 1), [.t 17, .t 18], none⟩, ⟨some 20, .load 1 false, [.t 19], none⟩, ⟨some 21, .p (.mov), [.t 1], none⟩, ⟨some 22, .p (.mov), [.t 5], none⟩, ⟨some 23, .p (.iaddrS 1), [.t 21, .t 22], none⟩, ⟨some 24, .load 1 false, [.t 23], none⟩, ⟨some 25, .p (.binI .neq), [.t 20, .t 24], none⟩]) (.cond (.t 25) (.seq (.ops false [] [⟨some 4, .p (.mov), [.c (.bool false)], none⟩]) (.ret)) (.skip)))) (.ops false [] [⟨some 15, .p (.mov), [.t 5], none⟩, ⟨some 16, .p (.binI .add), [.t 15, .c (.int .i64 1)], none⟩, ⟨some 5, .p (.mov), [.t 16], none⟩])))))) (.seq (.ops false [] [⟨some 4, .p (.mov), [.c (.bool true)], none⟩]) (.ret))))
theorem c39 : FnC Try.prog 39 26 a39 [.tmp 4] := ⟨Try.call39, _, _, Try.func39, rfl, by kernel_rfl, by kernel_rfl, rfl⟩
def a55 : AC := .seq (.ops false [] [⟨some 1, .box 102 10 1 true, [.t 0], none⟩, ⟨some 2, .alloc 108 4 [.agg [.int .i64 0, .int .i64 0, .int .i64 0, .int .i64 0]], [], none⟩, ⟨some 3, .p (.mov), [.c (.int .i64 0)], none⟩, ⟨some 4, .p (.mov), [.c (.int .i64 0)], none⟩]) (.seq (.seq (.ops false [] [⟨some 10, .load 10 true, [.t 1], none⟩, ⟨some 11, .call 120, [.t 10], none⟩, ⟨some 5, .p (.mov), [.t 11], none⟩]) (.seq (.ops false [] [⟨some 12, .p (.mov), [.t 5], none⟩, ⟨some 13, .p (.binI .neq), [.t 12, .c (.int .i64 0)], none⟩]) (.cond (.t 13) (.seq (.ops false [] [⟨some 14, .p (.build [.int .i64 0, .int .i64 0, .int .i64 0, .int .i64 0] []), [], none⟩, ⟨some 15, .p (.mov), [.t 5], none⟩, ⟨none, .store 4 true, [.t 2, .t 14], none⟩, ⟨some 3, .p (.mov), [.c (.int .i64 0)], none⟩, ⟨some 4, .p (.mov), [.t 15], none⟩]) (.ret)) (.skip)))) (.seq (.ops false [] [⟨some 6, .alloc 108 4 [.agg [.int .i64 0, .int .i64 0, .int .i64 0, .int .i64 0]], [], none⟩]) (.seq (.ops false [] [⟨some 7, .alloc 3 1 [.int .i64 0], [], none⟩, ⟨none, .store 1 false, [.t 7, .c (.int .i64 (-1))], none⟩]) (.seq (.seq (.ops false [] [⟨some 16, .load 10 true, [.t 1], none⟩, ⟨some 17, .call 121, [.t 16], none⟩]) (.block 0 (.rf (.t 17) [18, 19] (.seq (.ops false [] [⟨some 8, .alloc 108 4 [.agg [.int .i64 0, .int .i64 0, .int .i64 0, .int .i64 0]], [], none⟩, ⟨none, .store 4 true, [.t 8, .t 18], none⟩]) (.ops false [] [⟨some 9, .p (.mov), [.t 19], none⟩])) (.block 1 (.seq (.ops false [] [⟨some 20, .load 1 false, [.t 7], none⟩, ⟨some 21, .p (.binI .lss), [.t 20, .c (.int .i64 0)], none⟩, ⟨some 22, .p (.mov), [.t 21], none⟩, ⟨some 23, .p (.mov), [.t 9], some (22, false)⟩, ⟨some 24, .load 1 false, [.t 7], some (22, false)⟩, ⟨some 25, .p (.binI .lss), [.t 23, .t 24], some (22, false)⟩, ⟨some 26, .p (.pick), [.t 22, .c (.bool true), .t 25], none⟩]) (.cond (.t 26) (.ops false [] [⟨some 27, .load 4 true, [.t 8], none⟩, ⟨some 28, .p (.mov), [.t 9], none⟩, ⟨none, .store 4 true, [.t 6, .t 27], none⟩, ⟨none, .store 1 false, [.t 7, .t 28], none⟩]) (.skip))))))) (.seq (.ops true [(1, 2)] [⟨some 29, .load 4 true, [.t 6], none⟩, ⟨some 30, .load 1 false, [.t 7], none⟩, ⟨none, .store 4 true, [.t 2, .t 29], none⟩, ⟨some 3, .p (.mov), [.t 30], none⟩, ⟨some 4, .p (.mov), [.c (.int .i64 0)], none⟩]) (.ret))))))
theorem c55 : FnC Try.prog 55 31 a55 [.cell 2 4 true, .tmp 3, .tmp 4] := ⟨Try.call55, _, _, Try.func55, rfl, by kernel_rfl, by kernel_rfl, rfl⟩
def a89 : AC := .seq (.ops false [] [⟨some 2, .p (.mov), [.c (.int .i64 0)], none⟩]) (.seq (.ops false [] [⟨some 3, .p (.mov), [.t 0], none⟩, ⟨some 4, .p (.mov), [.t 0], none⟩, ⟨some 5, .p (.neg), [.t 4], none⟩, ⟨some 6, .p (.mm true), [.t 3, .t 5], none⟩, ⟨some 2, .p (.mov), [.t 6], none⟩]) (.ret))
theorem c89 : FnC Try.prog 89 7 a89 [.tmp 2] := ⟨Try.call89, _, _, Try.func89, rfl, by kernel_rfl, by kernel_rfl, rfl⟩
def a121 : AC := .seq (.ops false [] [⟨some 1, .box 102 10 1 true, [.t 0], none⟩, ⟨some 2, .p (.mov), [.c (.nilfn)], none⟩]) (.seq (.ops false [] [⟨some 3, .p (.mkfn 151 0), [.t 1], none⟩, ⟨some 2, .p (.mov), [.t 3], none⟩]) (.ret))
theorem c121 : FnC Try.prog 121 4 a121 [.tmp 2] := ⟨Try.call121, _, _, Try.func121, rfl, by kernel_rfl, by kernel_rfl, rfl⟩
def a139 : AC := .seq (.ops false [] [⟨some 2, .p (.mov), [.c (.nilslice)], none⟩]) (.seq (.seq (.ops false [] [⟨some 3, .p (.mov), [.t 0], none⟩, ⟨some 4, .p (.eqN false .s), [.t 3, .c (.nilslice)], none⟩]) (.cond (.t 4) (.seq (.ops false [] [⟨some 2, .p (.mov), [.c (.nilslice)], none⟩]) (.ret)) (.skip))) (.seq (.ops false [] [⟨some 5, .bsl 3 1, [], none⟩, ⟨some 6, .p (.mov), [.t 0], none⟩, ⟨some 7, .app 3 1 8, [.t 5, .t 6], none⟩, ⟨some 2, .p (.mov), [.t 7], none⟩]) (.ret)))
theorem c139 : FnC Try.prog 139 8 a139 [.tmp 2] := ⟨Try.call139, _, _, Try.func139, rfl, by kernel_rfl, by kernel_rfl, rfl⟩
def a140 : AC := .seq (.ops false [] [⟨some 4, .p (.mov), [.c (.bool false)], none⟩]) (.seq (.ops false [] [⟨some 5, .p (.mov), [.t 0], none⟩, ⟨some 6, .p (.mov), [.t 1], none⟩, ⟨some 7, .call 159, [.t 5, .t 6], none⟩, ⟨some 8, .p (.binI .geq), [.t 7, .c (.int .i64 0)], none⟩, ⟨some 4, .p (.mov), [.t 8], none⟩]) (.ret))
theorem c140 : FnC Try.prog 140 9 a140 [.tmp 4] := ⟨Try.call140, _, _, Try.func140, rfl, by kernel_rfl, by kernel_rfl, rfl⟩
def a141 : AC := .seq (.ops false [] [⟨some 2, .p (.mov), [.c (.nilslice)], none⟩]) (.seq (.ops false [] [⟨some 3, .p (.mov), [.t 0], none⟩, ⟨some 4, .p (.mov), [.t 0], none⟩, ⟨some 5, .p (.lenS), [.t 4], none⟩, ⟨some 6, .p (.mov), [.t 0], none⟩, ⟨some 7, .p (.lenS), [.t 6], none⟩, ⟨some 8, .p (.slc 1 false true true), [.t 3, .t 5, .t 7], none⟩, ⟨some 2, .p (.mov), [.t 8], none⟩]) (.ret))
theorem c141 : FnC Try.prog 141 9 a141 [.tmp 2] := ⟨Try.call141, _, _, Try.func141, rfl, by kernel_rfl, by kernel_rfl, rfl⟩
def a159 : AC := .seq (.ops false [] [⟨some 4, .p (.mov), [.c (.int .i64 0)], none⟩]) (.seq (.seq (.ops false [] [⟨some 6, .p (.mov), [.t 0], none⟩, ⟨some 7, .p (.lenS), [.t 6], none⟩, ⟨some 8, .p (.mov), [.c (.int .i64 0)], none⟩]) (.block 0 (.loop (.seq (.ops false [] [⟨some 9, .p (.binI .lss), [.t 8, .t 7], none⟩]) (.seq (.cond (.t 9) (.skip) (.exit 0)) (.seq (.block 1 (.seq (.ops false [] [⟨some 10, .p (.mov), [.t 8], none⟩, ⟨some 5, .p (.mov), [.t 10], none⟩]) (.seq (.ops false [] [⟨some 11, .p (.mov), [.t 1], none⟩, ⟨some 12, .p (.mov), [.t 0], none⟩, ⟨some 13, .p (.mov), [.t 5], none⟩, ⟨some 14, .p (.iaddrS 1), [.t 12, .t 13], none⟩, ⟨some 15, .load 1 false, [.t 14], none⟩, ⟨some 16, .p (.binI .eql), [.t 11, .t 15], none⟩]) (.cond (.t 16) (.seq (.ops false [] [⟨some 17, .p (.mov), [.t 5], none⟩, ⟨some 4, .p (.mov), [.t 17], none⟩]) (.ret)) (.skip))))) (.ops false [] [⟨some 18, .p (.binI .add), [.t 8, .c (.int .i64 1)], none⟩, ⟨some 8, .p (.mov), [.t 18], none⟩]))))))) (.seq (.ops false [] [⟨some 4, .p (.mov), [.c (.int .i64 (-1))], none⟩]) (.ret)))
theorem c159 : FnC Try.prog 159 19 a159 [.tmp 4] := ⟨Try.call159, _, _, Try.func159, rfl, by kernel_rfl, by kernel_rfl, rfl⟩
namespace Wa
theorem k_pairs (x : Sr) : FOk P 121 [eSr x] (.fn 151 [] [.vp [eSr x] 0 0]) := by
  refine c121.fok (by simp only [subs, sub1, free_I, free_Rg]) (Cor.post (Cor.run (noC_good _) (noHx_good _) hm ?_))
  simp +contextual -implicitDefEqProofs (maxSteps := 2000000) only [bg_eq, a121, ruB, rh_no, Int.reduceLT, Int.reduceLE, Int.reduceAdd, Int.reduceSub, Int.reduceMul, Int.reduceNeg, Int.reduceToNat, Int.reduceEq, Int.reduceNe, Int.reduceTDiv, Int.reduceTMod, implies_true, putL, appN, appX, appC, Eng.Fi, reduceCtorEq, exists_eq_left', exists_eq_left, if_true, if_false, List.replicate, Nat.reduceAdd, Nat.reduceSub, Nat.reduceMul, Nat.reduceLeDiff, Nat.reduceLT, Nat.reduceEqDiff]
  refine ⟨_, Wkn.of ⟨0, [], [0], 1, [2]⟩ rfl, _, rfl, ?_, ?_⟩
  · show some (AV.fn 151 [] [.vp [sub1 _ (eSr x)] 0 0]) = _
    rw [free_Sr]
  · show AV.fn 151 [] [.vp [sub1 _ (eSr x)] 0 0] = _
    rw [free_Sr]
noncomputable def cf_pairs : List AV → Option AV
  | [x_v] => onSr x_v fun x => some (.fn 151 [] [.vp [eSr x] 0 0])
  | _ => none
theorem g_pairs : Fn P 121 cf_pairs := fun args v hh => by
  unfold cf_pairs at hh; split at hh
  · obtain ⟨x, rfl, hh1⟩ := onSr_inv hh
    have hk := Option.some.inj hh1; subst hk; exact k_pairs _
  · cases hh
theorem x_pairs (x : Sr) : cf_pairs [eSr x] = some (.fn 151 [] [.vp [eSr x] 0 0]) := by
  simp only [cf_pairs, onSr_e]
theorem foldS_nx {β : Type} {st : β → List AV → β × Jk} (h : ∀ a v, (st a v).2 = .nx) : ∀ (vs : List (List AV)) (a : β), foldS st a vs = (vs.foldl (fun a v => (st a v).1) a, .nx)
  | [], a => rfl
  | v :: vs, a => by
    rw [foldS_cons, h]
    exact foldS_nx h vs _
def dY : List AV → Pa × Int
  | [.agg [.int _ y, .int _ z, .int _ h, .int _ s], .int _ n] => (⟨y, z, h, s⟩, n)
  | _ => (⟨0, 0, 0, 0⟩, 0)
theorem dY_e (x : Sr) (p : Pa) : dY (eY x p) = (p, mfV p x.su x.rd) := rfl
def stB (c q : Pa × Int) : Pa × Int := if c.2 < 0 ∨ q.2 < c.2 then q else c
def stb (c : Pa × Int) (v : List AV) : (Pa × Int) × Jk := (stB c (dY v), .nx)
def zPa : Pa := ⟨0, 0, 0, 0⟩
def Jbi (c : Pa × Int) : List HEnt := [⟨2, 2, .rows 3 1 [I c.2]⟩, ⟨1, 1, .rows 108 4 [ePa c.1]⟩, ⟨0, 0, .rows 108 4 [ePa zPa]⟩]
theorem Jbi_inj (a b : Pa × Int) (h : Jbi a = Jbi b) : a = b := by
  obtain ⟨⟨a1, a2, a3, a4⟩, a5⟩ := a
  obtain ⟨⟨b1, b2, b3, b4⟩, b5⟩ := b
  simp only [Jbi, List.cons.injEq, HEnt.mk.injEq, ABlk.rows.injEq, AV.agg.injEq, AV.int.injEq, true_and, and_true] at h
  obtain ⟨rfl, rfl, rfl, rfl, rfl⟩ := h
  rfl
def bsL (x : Sr) : Pa × Int := (prL x).foldl (fun c p => stB c (p, mfV p x.su x.rd)) (zPa, -1)
def biV (x : Sr) : AV := if srE x = 0 then .tup [ePa (bsL x).1, I (bsL x).2, I 0] else .tup [ePa zPa, I 0, I (srE x)]
def S_bi (x : Sr) : AState := ⟨[.any, .vp [eSr x] 0 0, .ptr 0 4 0 0, I 0, I 0, .any, .any, .any, .any, .any, .any, .any, .any, .any, .any, .any, .any, .any, .any, .any, .any, .any, .any, .any, .any, .any, .any, .any, .any, .any, .any], [⟨0, 0, .rows 108 4 [ePa zPa]⟩], 1⟩
def S_bi2 (x : Sr) : AState := ⟨[.any, .vp [eSr x] 0 0, .ptr 0 4 0 0, .any, .any, .any, .ptr 1 4 0 0, .ptr 2 1 0 0, .any, .any, .any, .any, .any, .any, .any, .any, .any, .any, .any, .any, .any, .any, .any, .any, .any, .any, .any, .any, .any, .any, .any], Jbi (zPa, -1), 3⟩
theorem k_BestIn (x : Sr) : FOk P 55 [eSr x] (biV x) := by
  have y1 := x_CheckSearch x
  have y2 := x_pairs x
  refine c55.fok (y := YH P noHx) (by simp only [subs, sub1, free_I, free_Rg]) ?_
  rw [bg_eq]
  refine Cor.seq (Cor.run (noC_good _) (noHx_good _) hm ?_)
  simp +contextual -implicitDefEqProofs (maxSteps := 2000000) only [eThen_normal, ruB, rh_no, Int.reduceLT, Int.reduceLE, Int.reduceAdd, Int.reduceSub, Int.reduceMul, Int.reduceNeg, Int.reduceToNat, Int.reduceEq, Int.reduceNe, Int.reduceTDiv, Int.reduceTMod, implies_true, putL, appN, appX, appC, Eng.Fi, reduceCtorEq, exists_eq_left', exists_eq_left, if_true, if_false, List.replicate, Nat.reduceAdd, Nat.reduceSub, Nat.reduceMul, Nat.reduceLeDiff, Nat.reduceLT, Nat.reduceEqDiff]
  refine Cor.wk (s2 := S_bi x) (Wkn.to ⟨0, [(1, 0)], [0], 1, [1, 2, 3, 4]⟩ rfl rfl (by simp [Wk.st, keepT, memN, Wk.fate, Wk.fate0, assoc, getE, Wk.hp, ABlk.sub, sub1, subs, S_bi, free_I, free_Rg, zPa])) ?_
  by_cases h0 : srE x = 0
  · rw [biV, if_pos h0]
    refine Cor.seq (Cor.run (addC_good g_CheckSearch (noC_good _)) (noHx_good _) hm ?_)
    simp +contextual -implicitDefEqProofs (maxSteps := 2000000) only [S_bi, y1, h0, eThen_normal, not_true_eq_false, ruB, rh_no, Int.reduceLT, Int.reduceLE, Int.reduceAdd, Int.reduceSub, Int.reduceMul, Int.reduceNeg, Int.reduceToNat, Int.reduceEq, Int.reduceNe, Int.reduceTDiv, Int.reduceTMod, implies_true, putL, appN, appX, appC, Eng.Fi, reduceCtorEq, exists_eq_left', exists_eq_left, if_true, if_false, List.replicate, Nat.reduceAdd, Nat.reduceSub, Nat.reduceMul, Nat.reduceLeDiff, Nat.reduceLT, Nat.reduceEqDiff]
    refine Cor.seq (Cor.run (noC_good _) (noHx_good _) hm ?_)
    simp +contextual -implicitDefEqProofs (maxSteps := 2000000) only [eThen_normal, ruB, rh_no, Int.reduceLT, Int.reduceLE, Int.reduceAdd, Int.reduceSub, Int.reduceMul, Int.reduceNeg, Int.reduceToNat, Int.reduceEq, Int.reduceNe, Int.reduceTDiv, Int.reduceTMod, implies_true, putL, appN, appX, appC, Eng.Fi, reduceCtorEq, exists_eq_left', exists_eq_left, if_true, if_false, List.replicate, Nat.reduceAdd, Nat.reduceSub, Nat.reduceMul, Nat.reduceLeDiff, Nat.reduceLT, Nat.reduceEqDiff]
    refine Cor.seq (Cor.run (noC_good _) (noHx_good _) hm ?_)
    simp +contextual -implicitDefEqProofs (maxSteps := 2000000) only [eThen_normal, ruB, rh_no, Int.reduceLT, Int.reduceLE, Int.reduceAdd, Int.reduceSub, Int.reduceMul, Int.reduceNeg, Int.reduceToNat, Int.reduceEq, Int.reduceNe, Int.reduceTDiv, Int.reduceTMod, implies_true, putL, appN, appX, appC, Eng.Fi, reduceCtorEq, exists_eq_left', exists_eq_left, if_true, if_false, List.replicate, Nat.reduceAdd, Nat.reduceSub, Nat.reduceMul, Nat.reduceLeDiff, Nat.reduceLT, Nat.reduceEqDiff]
    refine Cor.wk (s2 := S_bi2 x) (Wkn.to ⟨0, [(0, 0), (1, 1), (2, 2)], [], 3, [1, 2, 6, 7]⟩ rfl rfl (by simp [Wk.st, keepT, memN, Wk.fate, Wk.fate0, assoc, getE, Wk.hp, ABlk.sub, sub1, subs, free_I, free_Rg, S_bi2, Jbi, zPa])) ?_
    refine Cor.run (addC_good g_pairs (noC_good _)) (noHx_good _) hm ?_
    simp +contextual -implicitDefEqProofs (maxSteps := 2000000) only [S_bi2, y2, ruB, rh_no, Int.reduceLT, Int.reduceLE, Int.reduceAdd, Int.reduceSub, Int.reduceMul, Int.reduceNeg, Int.reduceToNat, Int.reduceEq, Int.reduceNe, Int.reduceTDiv, Int.reduceTMod, implies_true, putL, appN, appX, appC, Eng.Fi, reduceCtorEq, exists_eq_left', exists_eq_left, if_true, if_false, List.replicate, Nat.reduceAdd, Nat.reduceSub, Nat.reduceMul, Nat.reduceLeDiff, Nat.reduceLT, Nat.reduceEqDiff]
    refine Cor.rangeL (addC_good g_pairs (noC_good _)) (noHx_good _) hm (fun _ _ _ _ => rfl) Jbi (fun _ => 4) stb (fun _ _ => True) (x0 := (zPa, -1)) rfl (sqPairs x (srE_z h0)) rfl rfl trivial Jbi_inj ?_ rfl rfl ?_ ?_ (fun _ _ _ _ _ _ => trivial) ?_ ?_
    · intro c e he
      simp only [Jbi, List.mem_cons, List.not_mem_nil, or_false] at he
      rcases he with rfl | rfl | rfl <;> simp
    · intro v hv
      obtain ⟨p, _, rfl⟩ := List.mem_map.1 hv
      rfl
    · intro j c _
      refine ⟨by decide, fun e he => ?_⟩
      simp only [Jbi, List.mem_cons, List.not_mem_nil, or_false] at he
      rcases he with rfl | rfl | rfl <;> exact ⟨⟨by simp, by simp⟩, fun φ _ => rfl⟩
    · intro j v c hj _ oR oB f go
      obtain ⟨p, hp, rfl⟩ := List.mem_map.1 (List.mem_of_getElem? hj)
      simp only [stb, dY_e] at go ⊢
      unfold stB at go
      by_cases c1 : c.2 < 0
      · have c1' := eq_true c1
        rw [if_pos (.inl c1)] at go
        simp +contextual -implicitDefEqProofs (maxSteps := 2000000) only [Jbi, c1', sp_cons, sp_nil, goB_eq, jk_n, jk_r, jk_e, fi_nx, ruB, rh_no, Int.reduceLT, Int.reduceLE, Int.reduceAdd, Int.reduceSub, Int.reduceMul, Int.reduceNeg, Int.reduceToNat, Int.reduceEq, Int.reduceNe, Int.reduceTDiv, Int.reduceTMod, implies_true, putL, appN, appX, appC, Eng.Fi, reduceCtorEq, exists_eq_left', exists_eq_left, if_true, if_false, List.replicate, Nat.reduceAdd, Nat.reduceSub, Nat.reduceMul, Nat.reduceLeDiff, Nat.reduceLT, Nat.reduceEqDiff]
        exact go _ [.any, .any, .any, .any, .any, .any, .any, .any, .any, .any, .any, .any, .any, .any, .any, .any, .any, .any, .any, .any, .any, .any, .any, .any, .any, .any, .any, .any, .any, .any, .any] (Wkn.to ⟨4, [], [], 4, []⟩ rfl rfl (by simp [Wk.st, keepT, memN, Wk.fate, Wk.fate0, assoc, getE, Wk.hp, ABlk.sub, sub1, subs, Jbi, zPa, free_I, free_Rg]))
      · have c1' := eq_false c1
        by_cases c2 : mfV p x.su x.rd < c.2
        · have c2' := eq_true c2
          rw [if_pos (.inr c2)] at go
          simp +contextual -implicitDefEqProofs (maxSteps := 2000000) only [Jbi, c1', c2', sp_cons, sp_nil, goB_eq, jk_n, jk_r, jk_e, fi_nx, ruB, rh_no, Int.reduceLT, Int.reduceLE, Int.reduceAdd, Int.reduceSub, Int.reduceMul, Int.reduceNeg, Int.reduceToNat, Int.reduceEq, Int.reduceNe, Int.reduceTDiv, Int.reduceTMod, implies_true, putL, appN, appX, appC, Eng.Fi, reduceCtorEq, exists_eq_left', exists_eq_left, if_true, if_false, List.replicate, Nat.reduceAdd, Nat.reduceSub, Nat.reduceMul, Nat.reduceLeDiff, Nat.reduceLT, Nat.reduceEqDiff]
          exact go _ [.any, .any, .any, .any, .any, .any, .any, .any, .any, .any, .any, .any, .any, .any, .any, .any, .any, .any, .any, .any, .any, .any, .any, .any, .any, .any, .any, .any, .any, .any, .any] (Wkn.to ⟨4, [], [], 4, []⟩ rfl rfl (by simp [Wk.st, keepT, memN, Wk.fate, Wk.fate0, assoc, getE, Wk.hp, ABlk.sub, sub1, subs, Jbi, zPa, free_I, free_Rg]))
        · have c2' := eq_false c2
          rw [if_neg (fun h => h.elim c1 c2)] at go
          simp +contextual -implicitDefEqProofs (maxSteps := 2000000) only [Jbi, c1', c2', sp_cons, sp_nil, goB_eq, jk_n, jk_r, jk_e, fi_nx, ruB, rh_no, Int.reduceLT, Int.reduceLE, Int.reduceAdd, Int.reduceSub, Int.reduceMul, Int.reduceNeg, Int.reduceToNat, Int.reduceEq, Int.reduceNe, Int.reduceTDiv, Int.reduceTMod, implies_true, putL, appN, appX, appC, Eng.Fi, reduceCtorEq, exists_eq_left', exists_eq_left, if_true, if_false, List.replicate, Nat.reduceAdd, Nat.reduceSub, Nat.reduceMul, Nat.reduceLeDiff, Nat.reduceLT, Nat.reduceEqDiff]
          exact go _ [.any, .any, .any, .any, .any, .any, .any, .any, .any, .any, .any, .any, .any, .any, .any, .any, .any, .any, .any, .any, .any, .any, .any, .any, .any, .any, .any, .any, .any, .any, .any] (Wkn.to ⟨4, [], [], 4, []⟩ rfl rfl (by simp [Wk.st, keepT, memN, Wk.fate, Wk.fate0, assoc, getE, Wk.hp, ABlk.sub, sub1, subs, Jbi, zPa, free_I, free_Rg]))
    · rw [foldS_nx (st := stb) (fun _ _ => rfl)]
      have ef : ((prL x).map (eY x)).foldl (fun a v => (stb a v).1) (zPa, -1) = bsL x := by
        rw [List.foldl_map]
        simp only [stb, dY_e]
        rfl
      rw [ef]
      generalize bsL x = c
      show R P _ noHx 0 .normal _ _ _
      simp +contextual -implicitDefEqProofs (maxSteps := 2000000) only [Jbi, sp_cons, sp_nil, goB_eq, jk_n, jk_r, jk_e, fi_nx, ruB, rh_no, Int.reduceLT, Int.reduceLE, Int.reduceAdd, Int.reduceSub, Int.reduceMul, Int.reduceNeg, Int.reduceToNat, Int.reduceEq, Int.reduceNe, Int.reduceTDiv, Int.reduceTMod, implies_true, putL, appN, appX, appC, Eng.Fi, reduceCtorEq, exists_eq_left', exists_eq_left, if_true, if_false, List.replicate, Nat.reduceAdd, Nat.reduceSub, Nat.reduceMul, Nat.reduceLeDiff, Nat.reduceLT, Nat.reduceEqDiff]
  · rw [biV, if_neg h0]
    refine Cor.run (addC_good g_CheckSearch (noC_good _)) (noHx_good _) hm ?_
    simp +contextual -implicitDefEqProofs (maxSteps := 2000000) only [S_bi, y1, h0, not_false_eq_true, zPa, ruB, rh_no, Int.reduceLT, Int.reduceLE, Int.reduceAdd, Int.reduceSub, Int.reduceMul, Int.reduceNeg, Int.reduceToNat, Int.reduceEq, Int.reduceNe, Int.reduceTDiv, Int.reduceTMod, implies_true, putL, appN, appX, appC, Eng.Fi, reduceCtorEq, exists_eq_left', exists_eq_left, if_true, if_false, List.replicate, Nat.reduceAdd, Nat.reduceSub, Nat.reduceMul, Nat.reduceLeDiff, Nat.reduceLT, Nat.reduceEqDiff]
noncomputable def cf_BestIn : List AV → Option AV
  | [x_v] => onSr x_v fun x => some (biV x)
  | _ => none
theorem g_BestIn : Fn P 55 cf_BestIn := fun args v hh => by
  unfold cf_BestIn at hh; split at hh
  · obtain ⟨x, rfl, hh1⟩ := onSr_inv hh
    have hk := Option.some.inj hh1; subst hk; exact k_BestIn _
  · cases hh
theorem x_BestIn (x : Sr) : cf_BestIn [eSr x] = some (biV x) := by
  simp only [cf_BestIn, onSr_e]
end Wa
open Go Go.Proofs Eng
set_option maxRecDepth 100000
set_option linter.unusedSimpArgs false
set_option linter.unusedVariables false
namespace Wa
def dI : AV → Option Int
  | .int .i64 n => some n
  | _ => none
theorem dI_e (x : Int) : dI (I x) = some x := rfl
theorem dI_inv (v : AV) (x : Int) (h : dI v = some x) : v = I x := by
  unfold dI at h
  split at h
  · cases h; rfl
  · cases h
def ixG (x : Int) : Nat → List Int → Int
  | _, [] => -1
  | n, y :: r => if x = y then n else ixG x (n + 1) r
theorem ixG_mem (x : Int) : ∀ (l : List Int) (n : Nat), decide (0 ≤ ixG x n l) = decide (x ∈ l)
  | [], n => by simp [ixG]
  | y :: r, n => by
    rw [ixG]
    split
    · rename_i h; simp [h]
    · rename_i h; rw [ixG_mem x r (n + 1)]; simp [h]
def S128 (l : List Int) (x : Int) (n : Nat) : AState := ⟨[.vs (l.map eI), I x, .any, .any, .any, .any, .vs (l.map eI), I l.length, I n, .any, .any, .any, .any, .any, .any, .any, .any, .any, .any], [], 0⟩
theorem k_IndexI (l : List Int) (x : Int) (hl : l.length ≤ 1099511627776) : FOk P 159 [.vs (l.map eI), I x] (I (ixG x 0 l)) := by
  refine c159.fok (by simp only [subs, sub1, free_I]) (Cor.run (noC_good _) (noHx_good _) hm ?_)
  simp +contextual -implicitDefEqProofs (maxSteps := 2000000) only [bg_eq, a159, List.length_map, ruB, rh_no, Int.reduceLT, Int.reduceLE, Int.reduceAdd, Int.reduceSub, Int.reduceMul, Int.reduceNeg, Int.reduceToNat, Int.reduceEq, Int.reduceNe, Int.reduceTDiv, Int.reduceTMod, implies_true, putL, appN, appX, appC, Eng.Fi, reduceCtorEq, exists_eq_left', exists_eq_left, if_true, if_false, List.replicate, Nat.reduceAdd, Nat.reduceSub, Nat.reduceMul, Nat.reduceLeDiff, Nat.reduceLT, Nat.reduceEqDiff]
  refine Cor.lp (noC_good _) (noHx_good _) hm (S128 l x) (fun n => n ≤ l.length ∧ ixG x 0 l = ixG x n (l.drop n)) (fun n => l.length - n) (a := 0) ⟨Nat.zero_le _, rfl⟩ (Wkn.keep [0, 1, 6, 7, 8] rfl) ?_
  intro f n ⟨hn, hf⟩ go
  rcases Nat.lt_or_ge n l.length with h | h
  · have e1 : decide ((n : Int) < (l.length : Int)) = true := lt_t h
    have e2 : (l.map eI)[n]? = some (eI l[n]) := get_e eI l h
    have e3 : IntKind.wrap .i64 ((n : Int) + 1) = ((n + 1 : Nat) : Int) := suc_w (by omega)
    rw [List.drop_eq_getElem_cons h, ixG] at hf
    by_cases hc : x = l[n]
    · rw [if_pos hc] at hf
      rw [hf]
      simp +contextual -implicitDefEqProofs (maxSteps := 2000000) only [S128, e1, e2, e3, hc, ruB, rh_no, Int.reduceLT, Int.reduceLE, Int.reduceAdd, Int.reduceSub, Int.reduceMul, Int.reduceNeg, Int.reduceToNat, Int.reduceEq, Int.reduceNe, Int.reduceTDiv, Int.reduceTMod, implies_true, putL, appN, appX, appC, Eng.Fi, reduceCtorEq, exists_eq_left', exists_eq_left, if_true, if_false, List.replicate, Nat.reduceAdd, Nat.reduceSub, Nat.reduceMul, Nat.reduceLeDiff, Nat.reduceLT, Nat.reduceEqDiff]
    · rw [if_neg hc] at hf
      simp +contextual -implicitDefEqProofs (maxSteps := 2000000) only [S128, e1, e2, e3, hc, ruB, rh_no, Int.reduceLT, Int.reduceLE, Int.reduceAdd, Int.reduceSub, Int.reduceMul, Int.reduceNeg, Int.reduceToNat, Int.reduceEq, Int.reduceNe, Int.reduceTDiv, Int.reduceTMod, implies_true, putL, appN, appX, appC, Eng.Fi, reduceCtorEq, exists_eq_left', exists_eq_left, if_true, if_false, List.replicate, Nat.reduceAdd, Nat.reduceSub, Nat.reduceMul, Nat.reduceLeDiff, Nat.reduceLT, Nat.reduceEqDiff]
      exact go _ (n + 1) ⟨h, hf⟩ (by omega) (Wkn.keep [0, 1, 6, 7, 8] rfl)
  · have e1 : decide ((n : Int) < (l.length : Int)) = false := lt_f h
    rw [List.drop_eq_nil_of_le h] at hf
    rw [hf]
    simp +contextual -implicitDefEqProofs (maxSteps := 2000000) only [S128, e1, ixG, ruB, rh_no, Int.reduceLT, Int.reduceLE, Int.reduceAdd, Int.reduceSub, Int.reduceMul, Int.reduceNeg, Int.reduceToNat, Int.reduceEq, Int.reduceNe, Int.reduceTDiv, Int.reduceTMod, implies_true, putL, appN, appX, appC, Eng.Fi, reduceCtorEq, exists_eq_left', exists_eq_left, if_true, if_false, List.replicate, Nat.reduceAdd, Nat.reduceSub, Nat.reduceMul, Nat.reduceLeDiff, Nat.reduceLT, Nat.reduceEqDiff]
def cf_IndexI : List AV → Option AV
  | [.vs l_v, .int .i64 x] => onL dI l_v fun l => if l.length ≤ 1099511627776 then some (I (ixG x 0 l)) else none
  | _ => none
theorem g_IndexI : Fn P 159 cf_IndexI := fun args v hh => by
  unfold cf_IndexI at hh; split at hh
  · obtain ⟨l, rfl, hh1⟩ := onL_inv dI_inv hh
    split at hh1
    · rename_i hc; have hk := Option.some.inj hh1; subst hk; exact k_IndexI _ _ hc
    · cases hh1
  · cases hh
theorem x_IndexI (l : List Int) (x : Int) (hc : (l.length ≤ 1099511627776) = True) : cf_IndexI [.vs (l.map eI), .int .i64 x] = some (I (ixG x 0 l)) := by
  simp only [cf_IndexI, onL_map dI_e]
  exact if_pos (by rw [hc]; trivial)
theorem k_ContainsI (l : List Int) (x : Int) (hl : l.length ≤ 1099511627776) : FOk P 140 [.vs (l.map eI), I x] (.bool (decide (x ∈ l))) := by
  have y := x_IndexI l x (by simp only [hl])
  rw [← ixG_mem x l 0]
  refine c140.fok (by simp only [subs, sub1, free_I]) (Cor.run (addC_good g_IndexI (noC_good _)) (noHx_good _) hm ?_)
  simp +contextual -implicitDefEqProofs (maxSteps := 2000000) only [bg_eq, a140, y, ruB, rh_no, Int.reduceLT, Int.reduceLE, Int.reduceAdd, Int.reduceSub, Int.reduceMul, Int.reduceNeg, Int.reduceToNat, Int.reduceEq, Int.reduceNe, Int.reduceTDiv, Int.reduceTMod, implies_true, putL, appN, appX, appC, Eng.Fi, reduceCtorEq, exists_eq_left', exists_eq_left, if_true, if_false, List.replicate, Nat.reduceAdd, Nat.reduceSub, Nat.reduceMul, Nat.reduceLeDiff, Nat.reduceLT, Nat.reduceEqDiff]
def cf_ContainsI : List AV → Option AV
  | [.vs l_v, .int .i64 x] => onL dI l_v fun l => if l.length ≤ 1099511627776 then some (.bool (decide (x ∈ l))) else none
  | _ => none
theorem g_ContainsI : Fn P 140 cf_ContainsI := fun args v hh => by
  unfold cf_ContainsI at hh; split at hh
  · obtain ⟨l, rfl, hh1⟩ := onL_inv dI_inv hh
    split at hh1
    · rename_i hc; have hk := Option.some.inj hh1; subst hk; exact k_ContainsI _ _ hc
    · cases hh1
  · cases hh
theorem x_ContainsI (l : List Int) (x : Int) (hc : (l.length ≤ 1099511627776) = True) : cf_ContainsI [.vs (l.map eI), .int .i64 x] = some (.bool (decide (x ∈ l))) := by
  simp only [cf_ContainsI, onL_map dI_e]
  exact if_pos (by rw [hc]; trivial)
theorem k_ClipI (l : List Int) (hl : l.length ≤ 1099511627776) : FOk P 141 [.vs (l.map eI)] (.vx (l.map eI)) := by
  refine c141.fok (by simp only [subs, sub1, free_I]) (Cor.run (noC_good _) (noHx_good _) hm ?_)
  have tk : (l.map eI).take l.length = l.map eI := by rw [List.take_of_length_le]; simp
  simp +contextual -implicitDefEqProofs (maxSteps := 2000000) only [bg_eq, a141, List.length_map, Nat.le_refl, tk, free_I, ruB, rh_no, Int.reduceLT, Int.reduceLE, Int.reduceAdd, Int.reduceSub, Int.reduceMul, Int.reduceNeg, Int.reduceToNat, Int.reduceEq, Int.reduceNe, Int.reduceTDiv, Int.reduceTMod, implies_true, putL, appN, appX, appC, Eng.Fi, reduceCtorEq, exists_eq_left', exists_eq_left, if_true, if_false, List.replicate, Nat.reduceAdd, Nat.reduceSub, Nat.reduceMul, Nat.reduceLeDiff, Nat.reduceLT, Nat.reduceEqDiff]
def cf_ClipI : List AV → Option AV
  | [.vs l_v] => onL dI l_v fun l => if l.length ≤ 1099511627776 then some (.vx (l.map eI)) else none
  | _ => none
theorem g_ClipI : Fn P 141 cf_ClipI := fun args v hh => by
  unfold cf_ClipI at hh; split at hh
  · obtain ⟨l, rfl, hh1⟩ := onL_inv dI_inv hh
    split at hh1
    · rename_i hc; have hk := Option.some.inj hh1; subst hk; exact k_ClipI _ hc
    · cases hh1
  · cases hh
theorem x_ClipI (l : List Int) (hc : (l.length ≤ 1099511627776) = True) : cf_ClipI [.vs (l.map eI)] = some (.vx (l.map eI)) := by
  simp only [cf_ClipI, onL_map dI_e]
  exact if_pos (by rw [hc]; trivial)
theorem k_CloneI (l : List Int) (hl : l ≠ [] ∧ l.length ≤ 1000) : FOk P 139 [.vs (l.map eI)] (.vs (l.map eI)) := by
  obtain ⟨h0, hl⟩ := hl
  refine c139.fok (by simp only [subs, sub1, free_I]) (Cor.run (noC_good _) (noHx_good _) hm ?_)
  cases l with
  | nil => exact absurd rfl h0
  | cons x r =>
    have fr := fun φ => free_I φ r
    have m1 : (r.length + 1 ≤ maxLen) = True := mx (by simp only [List.length_cons] at hl; omega)
    have m2 : ((r.length + 1) * 8 ≤ 140737488355328) = True := by simp only [eq_iff_iff, iff_true]; simp only [List.length_cons] at hl; omega
    have t0 : (r.map eI).length = r.length := by simp
    have t1 : (r.length ≤ (r.map eI).length) = True := by simp
    have t2 : (r.map eI).take r.length = r.map eI := by rw [List.take_of_length_le]; simp
    have al : (r.map eI).all (fun v => decide (v.cells.length = 1)) = true := by simp [List.all_map, AV.cells]
    simp +contextual -implicitDefEqProofs (maxSteps := 2000000) only [bg_eq, a139, List.map_cons, List.length_map, rs_nil, rs_t, rs_f, ag_nils, ag_sl, ag_vs, ag_str, ag_ptr, ag_nilp, ag_vp, ag_fun, m1, m2, t0, t1, t2, fr, Nat.le_refl, al, en_vs, ruB, rh_no, Int.reduceLT, Int.reduceLE, Int.reduceAdd, Int.reduceSub, Int.reduceMul, Int.reduceNeg, Int.reduceToNat, Int.reduceEq, Int.reduceNe, Int.reduceTDiv, Int.reduceTMod, implies_true, putL, appN, appX, appC, Eng.Fi, reduceCtorEq, exists_eq_left', exists_eq_left, if_true, if_false, List.replicate, Nat.reduceAdd, Nat.reduceSub, Nat.reduceMul, Nat.reduceLeDiff, Nat.reduceLT, Nat.reduceEqDiff]
def cf_CloneI : List AV → Option AV
  | [.vs l_v] => onL dI l_v fun l => if l ≠ [] ∧ l.length ≤ 1000 then some (.vs (l.map eI)) else none
  | _ => none
theorem g_CloneI : Fn P 139 cf_CloneI := fun args v hh => by
  unfold cf_CloneI at hh; split at hh
  · obtain ⟨l, rfl, hh1⟩ := onL_inv dI_inv hh
    split at hh1
    · rename_i hc; have hk := Option.some.inj hh1; subst hk; exact k_CloneI _ hc
    · cases hh1
  · cases hh
theorem x_CloneI (l : List Int) (hc : (l ≠ [] ∧ l.length ≤ 1000) = True) : cf_CloneI [.vs (l.map eI)] = some (.vs (l.map eI)) := by
  simp only [cf_CloneI, onL_map dI_e]
  exact if_pos (by rw [hc]; trivial)
def S52 (l m : List Int) (n : Nat) : AState := ⟨[.vs (l.map eI), .vs (m.map eI), .any, .any, .any, I n, .any, .any, .any, .any, .any, .any, .any, .any, .any, .any, .any, .any, .any, .any, .any, .any, .any, .any, .any, .any], [], 0⟩
theorem k_Ints (l m : List Int) (hl : l.length ≤ 1000) : FOk P 39 [.vs (l.map eI), .vs (m.map eI)] (.bool (decide (l = m))) := by
  by_cases hlm : l.length = m.length
  · refine c39.fok (by simp only [subs, sub1, free_I]) (Cor.run (noC_good _) (noHx_good _) hm ?_)
    have h0 : ((l.length : Int) = (m.length : Int)) = True := by simp [hlm]
    simp +contextual -implicitDefEqProofs (maxSteps := 2000000) only [bg_eq, a39, List.length_map, h0, not_true_eq_false, ruB, rh_no, Int.reduceLT, Int.reduceLE, Int.reduceAdd, Int.reduceSub, Int.reduceMul, Int.reduceNeg, Int.reduceToNat, Int.reduceEq, Int.reduceNe, Int.reduceTDiv, Int.reduceTMod, implies_true, putL, appN, appX, appC, Eng.Fi, reduceCtorEq, exists_eq_left', exists_eq_left, if_true, if_false, List.replicate, Nat.reduceAdd, Nat.reduceSub, Nat.reduceMul, Nat.reduceLeDiff, Nat.reduceLT, Nat.reduceEqDiff]
    refine Cor.lp (noC_good _) (noHx_good _) hm (S52 l m) (fun n => n ≤ l.length ∧ l.take n = m.take n) (fun n => l.length - n) (a := 0) ⟨Nat.zero_le _, by simp⟩ (Wkn.keep [0, 1, 5] rfl) ?_
    intro f n ⟨hn, hf⟩ go
    rcases Nat.lt_or_ge n l.length with h | h
    · have e1 : decide ((n : Int) < (l.length : Int)) = true := lt_t h
      have e2 : (l.map eI)[n]? = some (eI l[n]) := get_e eI l h
      have e3 : IntKind.wrap .i64 ((n : Int) + 1) = ((n + 1 : Nat) : Int) := suc_w (by omega)
      have hmn : n < m.length := by omega
      have e4 : (m.map eI)[n]? = some (eI m[n]) := get_e eI m hmn
      by_cases hc : l[n] = m[n]
      · simp +contextual -implicitDefEqProofs (maxSteps := 2000000) only [S52, e1, e2, e3, e4, hc, List.length_map, not_true_eq_false, ruB, rh_no, Int.reduceLT, Int.reduceLE, Int.reduceAdd, Int.reduceSub, Int.reduceMul, Int.reduceNeg, Int.reduceToNat, Int.reduceEq, Int.reduceNe, Int.reduceTDiv, Int.reduceTMod, implies_true, putL, appN, appX, appC, Eng.Fi, reduceCtorEq, exists_eq_left', exists_eq_left, if_true, if_false, List.replicate, Nat.reduceAdd, Nat.reduceSub, Nat.reduceMul, Nat.reduceLeDiff, Nat.reduceLT, Nat.reduceEqDiff]
        refine go _ (n + 1) ⟨h, ?_⟩ (by omega) (Wkn.keep [0, 1, 5] rfl)
        rw [List.take_succ_eq_append_getElem h, List.take_succ_eq_append_getElem hmn, hf, hc]
      · have hne : l ≠ m := fun e => hc (by subst e; rfl)
        rw [decide_eq_false hne]
        simp +contextual -implicitDefEqProofs (maxSteps := 2000000) only [S52, e1, e2, e3, e4, hc, List.length_map, not_false_eq_true, ruB, rh_no, Int.reduceLT, Int.reduceLE, Int.reduceAdd, Int.reduceSub, Int.reduceMul, Int.reduceNeg, Int.reduceToNat, Int.reduceEq, Int.reduceNe, Int.reduceTDiv, Int.reduceTMod, implies_true, putL, appN, appX, appC, Eng.Fi, reduceCtorEq, exists_eq_left', exists_eq_left, if_true, if_false, List.replicate, Nat.reduceAdd, Nat.reduceSub, Nat.reduceMul, Nat.reduceLeDiff, Nat.reduceLT, Nat.reduceEqDiff]
    · have e1 : decide ((n : Int) < (l.length : Int)) = false := lt_f h
      rw [List.take_of_length_le h, List.take_of_length_le (by omega)] at hf
      rw [decide_eq_true hf]
      simp +contextual -implicitDefEqProofs (maxSteps := 2000000) only [S52, e1, List.length_map, ruB, rh_no, Int.reduceLT, Int.reduceLE, Int.reduceAdd, Int.reduceSub, Int.reduceMul, Int.reduceNeg, Int.reduceToNat, Int.reduceEq, Int.reduceNe, Int.reduceTDiv, Int.reduceTMod, implies_true, putL, appN, appX, appC, Eng.Fi, reduceCtorEq, exists_eq_left', exists_eq_left, if_true, if_false, List.replicate, Nat.reduceAdd, Nat.reduceSub, Nat.reduceMul, Nat.reduceLeDiff, Nat.reduceLT, Nat.reduceEqDiff]
  · have hne : l ≠ m := fun e => hlm (by rw [e])
    have h0 : ((l.length : Int) = (m.length : Int)) = False := by simp only [eq_iff_iff, iff_false]; omega
    rw [decide_eq_false hne]
    refine c39.fok (by simp only [subs, sub1, free_I]) (Cor.run (noC_good _) (noHx_good _) hm ?_)
    simp +contextual -implicitDefEqProofs (maxSteps := 2000000) only [bg_eq, a39, List.length_map, h0, not_false_eq_true, ruB, rh_no, Int.reduceLT, Int.reduceLE, Int.reduceAdd, Int.reduceSub, Int.reduceMul, Int.reduceNeg, Int.reduceToNat, Int.reduceEq, Int.reduceNe, Int.reduceTDiv, Int.reduceTMod, implies_true, putL, appN, appX, appC, Eng.Fi, reduceCtorEq, exists_eq_left', exists_eq_left, if_true, if_false, List.replicate, Nat.reduceAdd, Nat.reduceSub, Nat.reduceMul, Nat.reduceLeDiff, Nat.reduceLT, Nat.reduceEqDiff]
def cf_Ints : List AV → Option AV
  | [.vs l_v, .vs m_v] => onL dI l_v fun l => onL dI m_v fun m => if l.length ≤ 1000 then some (.bool (decide (l = m))) else none
  | _ => none
theorem g_Ints : Fn P 39 cf_Ints := fun args v hh => by
  unfold cf_Ints at hh; split at hh
  · obtain ⟨l, rfl, hh1⟩ := onL_inv dI_inv hh
    obtain ⟨m, rfl, hh2⟩ := onL_inv dI_inv hh1
    split at hh2
    · rename_i hc; have hk := Option.some.inj hh2; subst hk; exact k_Ints _ _ hc
    · cases hh2
  · cases hh
theorem x_Ints (l : List Int) (m : List Int) (hc : (l.length ≤ 1000) = True) : cf_Ints [.vs (l.map eI), .vs (m.map eI)] = some (.bool (decide (l = m))) := by
  simp only [cf_Ints, onL_map dI_e]
  exact if_pos (by rw [hc]; trivial)
theorem k_Size (n : Int) (h : -4611686018427387904 ≤ n ∧ n ≤ 4611686018427387904) : FOk P 89 [I n] (I (max n (-n))) := by
  have w : IntKind.wrap .i64 (0 - n) = -n := by rw [wrap64 (by omega) (by omega)]; omega
  refine c89.fok rfl (Cor.run (noC_good _) (noHx_good _) hm ?_)
  simp +contextual -implicitDefEqProofs (maxSteps := 2000000) only [bg_eq, a89, w, ruB, rh_no, Int.reduceLT, Int.reduceLE, Int.reduceAdd, Int.reduceSub, Int.reduceMul, Int.reduceNeg, Int.reduceToNat, Int.reduceEq, Int.reduceNe, Int.reduceTDiv, Int.reduceTMod, implies_true, putL, appN, appX, appC, Eng.Fi, reduceCtorEq, exists_eq_left', exists_eq_left, if_true, if_false, List.replicate, Nat.reduceAdd, Nat.reduceSub, Nat.reduceMul, Nat.reduceLeDiff, Nat.reduceLT, Nat.reduceEqDiff]
def cf_Size : List AV → Option AV
  | [.int .i64 n] => if -4611686018427387904 ≤ n ∧ n ≤ 4611686018427387904 then some (I (max n (-n))) else none
  | _ => none
theorem g_Size : Fn P 89 cf_Size := fun args v hh => by
  unfold cf_Size at hh; split at hh
  · split at hh
    · rename_i hc; have hk := Option.some.inj hh; subst hk; exact k_Size _ hc
    · cases hh
  · cases hh
theorem x_Size (n : Int) (hc : (-4611686018427387904 ≤ n ∧ n ≤ 4611686018427387904) = True) : cf_Size [.int .i64 n] = some (I (max n (-n))) := by
  exact if_pos (by rw [hc]; trivial)
end Wa
