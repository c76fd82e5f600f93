import Derived.Test.YtjkhnmhbbjgenaaEngS9
import Derived.Test.YtjkhnmhbbjgenaaS17
open Go Go.Proofs Eng
set_option maxRecDepth 100000
set_option linter.unusedSimpArgs false
set_option linter.unusedVariables false
def a23 : AC := .seq (.ops false [] [⟨some 1, .box 42 7 1 true, [.t 0], none⟩, ⟨some 2, .p (.mov), [.c (.bool false)], none⟩]) (.seq (.ops false [] [⟨some 3, .p (.faddr 6), [.t 1], none⟩, ⟨some 4, .load 1 false, [.t 3], none⟩, ⟨some 5, .p (.lenS), [.t 4], none⟩, ⟨some 6, .p (.binI .leq), [.t 5, .c (.int .i64 8)], none⟩, ⟨some 2, .p (.mov), [.t 6], none⟩]) (.ret))
theorem c23 : FnC Try.prog 23 7 a23 [.tmp 2] := ⟨Try.call23, _, _, Try.func23, rfl, by kernel_rfl, by kernel_rfl, rfl⟩
def a25 : AC := .seq (.ops false [] [⟨some 1, .box 42 7 1 true, [.t 0], none⟩, ⟨some 2, .alloc 42 7 [.agg [.int .i64 0, .int .i64 0, .int .i64 0, .int .i64 0, .int .i64 0, .int .i64 0, .nilslice]], [], none⟩]) (.seq (.ops false [] [⟨some 3, .bsl 121 4, [], none⟩, ⟨some 4, .p (.faddr 6), [.t 1], none⟩, ⟨some 5, .load 1 false, [.t 4], none⟩, ⟨some 6, .app 121 4 32, [.t 3, .t 5], none⟩, ⟨some 7, .p (.faddr 6), [.t 1], none⟩, ⟨none, .store 1 false, [.t 7, .t 6], none⟩]) (.seq (.ops false [] [⟨some 8, .load 7 true, [.t 1], none⟩, ⟨none, .store 7 true, [.t 2, .t 8], none⟩]) (.ret)))
theorem c25 : FnC Try.prog 25 9 a25 [.cell 2 7 true] := ⟨Try.call25, _, _, Try.func25, rfl, by kernel_rfl, by kernel_rfl, rfl⟩
def a45 : AC := .seq (.ops false [] [⟨some 2, .box 42 7 1 true, [.t 0], none⟩, ⟨some 3, .box 37 2 1 true, [.t 1], none⟩, ⟨some 4, .p (.mov), [.c (.bool false)], none⟩]) (.seq (.seq (.ops false [] [⟨some 5, .p (.mov), [.c (.int .i64 0)], none⟩]) (.block 0 (.loop (.seq (.seq (.ops false [] [⟨some 6, .p (.mov), [.t 5], none⟩, ⟨some 7, .p (.faddr 6), [.t 2], none⟩, ⟨some 8, .load 1 false, [.t 7], none⟩, ⟨some 9, .p (.lenS), [.t 8], none⟩, ⟨some 10, .p (.binI .lss), [.t 6, .t 9], none⟩]) (.cond (.t 10) (.skip) (.exit 0))) (.seq (.block 1 (.seq (.ops true [] [⟨some 13, .p (.faddr 6), [.t 2], none⟩, ⟨some 14, .load 1 false, [.t 13], none⟩, ⟨some 15, .p (.mov), [.t 5], none⟩, ⟨some 16, .p (.iaddrS 4), [.t 14, .t 15], none⟩, ⟨some 17, .load 4 true, [.t 16], none⟩, ⟨some 18, .load 2 true, [.t 3], none⟩, ⟨some 19, .call 96, [.t 17, .t 18], none⟩]) (.cond (.t 19) (.seq (.ops false [] [⟨some 4, .p (.mov), [.c (.bool true)], none⟩]) (.ret)) (.skip)))) (.ops false [] [⟨some 11, .p (.mov), [.t 5], none⟩, ⟨some 12, .p (.binI .add), [.t 11, .c (.int .i64 1)], none⟩, ⟨some 5, .p (.mov), [.t 12], none⟩])))))) (.seq (.ops false [] [⟨some 4, .p (.mov), [.c (.bool false)], none⟩]) (.ret)))
theorem c45 : FnC Try.prog 45 20 a45 [.tmp 4] := ⟨Try.call45, _, _, Try.func45, rfl, by kernel_rfl, by kernel_rfl, rfl⟩
def a46 : AC := .seq (.ops false [] [⟨some 4, .p (.mov), [.c (.int .i64 0)], none⟩]) (.seq (.ops false [] [⟨some 5, .p (.mov), [.t 0], none⟩, ⟨some 6, .p (.mov), [.t 1], none⟩, ⟨some 7, .p (.binI .rem), [.t 5, .t 6], none⟩, ⟨some 0, .p (.mov), [.t 7], none⟩]) (.seq (.seq (.ops false [] [⟨some 8, .p (.mov), [.t 0], none⟩, ⟨some 9, .p (.binI .lss), [.t 8, .c (.int .i64 0)], none⟩]) (.cond (.t 9) (.ops false [] [⟨some 10, .p (.mov), [.t 0], none⟩, ⟨some 11, .p (.mov), [.t 1], none⟩, ⟨some 12, .p (.binI .add), [.t 10, .t 11], none⟩, ⟨some 0, .p (.mov), [.t 12], none⟩]) (.skip))) (.seq (.ops false [] [⟨some 13, .p (.mov), [.t 0], none⟩, ⟨some 4, .p (.mov), [.t 13], none⟩]) (.ret))))
theorem c46 : FnC Try.prog 46 14 a46 [.tmp 4] := ⟨Try.call46, _, _, Try.func46, rfl, by kernel_rfl, by kernel_rfl, rfl⟩
def a96 : AC := .seq (.ops false [] [⟨some 2, .box 121 4 1 true, [.t 0], none⟩, ⟨some 3, .box 37 2 1 true, [.t 1], none⟩, ⟨some 4, .p (.mov), [.c (.bool false)], none⟩]) (.seq (.ops false [] [⟨some 6, .p (.faddr 0), [.t 2], none⟩, ⟨some 7, .p (.faddr 0), [.t 6], none⟩, ⟨some 8, .load 1 false, [.t 7], none⟩, ⟨some 5, .p (.mov), [.t 8], none⟩]) (.block 0 (.loop (.seq (.block 1 (.seq (.seq (.ops false [] [⟨some 12, .p (.mov), [.t 5], none⟩, ⟨some 13, .p (.faddr 0), [.t 3], none⟩, ⟨some 14, .load 1 false, [.t 13], none⟩, ⟨some 15, .p (.binI .eql), [.t 12, .t 14], none⟩]) (.cond (.t 15) (.seq (.ops false [] [⟨some 16, .p (.faddr 1), [.t 3], none⟩, ⟨some 17, .load 1 false, [.t 16], none⟩, ⟨some 18, .p (.faddr 2), [.t 2], none⟩, ⟨some 19, .p (.faddr 0), [.t 18], none⟩, ⟨some 20, .load 1 false, [.t 19], none⟩, ⟨some 21, .p (.faddr 2), [.t 2], none⟩, ⟨some 22, .p (.faddr 1), [.t 21], none⟩, ⟨some 23, .load 1 false, [.t 22], none⟩, ⟨some 24, .call 38, [.t 17, .t 20, .t 23], none⟩, ⟨some 4, .p (.mov), [.t 24], none⟩]) (.ret)) (.skip))) (.seq (.ops false [] [⟨some 25, .p (.mov), [.t 5], none⟩, ⟨some 26, .p (.faddr 0), [.t 2], none⟩, ⟨some 27, .p (.faddr 1), [.t 26], none⟩, ⟨some 28, .load 1 false, [.t 27], none⟩, ⟨some 29, .p (.binI .eql), [.t 25, .t 28], none⟩]) (.cond (.t 29) (.seq (.ops false [] [⟨some 4, .p (.mov), [.c (.bool false)], none⟩]) (.ret)) (.skip))))) (.ops false [] [⟨some 9, .p (.mov), [.t 5], none⟩, ⟨some 10, .p (.binI .add), [.t 9, .c (.int .i64 1)], none⟩, ⟨some 11, .call 46, [.t 10, .c (.int .i64 360)], none⟩, ⟨some 5, .p (.mov), [.t 11], none⟩])))))
theorem c96 : FnC Try.prog 96 30 a96 [.tmp 4] := ⟨Try.call96, _, _, Try.func96, rfl, by kernel_rfl, by kernel_rfl, rfl⟩
def a116 : AC := .seq (.ops false [] [⟨some 2, .p (.mov), [.c (.int .i64 0)], none⟩]) (.seq (.ops false [] [⟨some 3, .p (.mov), [.t 0], none⟩, ⟨some 4, .p (.mov), [.t 0], none⟩, ⟨some 5, .p (.neg), [.t 4], none⟩, ⟨some 6, .p (.mm true), [.t 3, .t 5], none⟩, ⟨some 2, .p (.mov), [.t 6], none⟩]) (.ret))
theorem c116 : FnC Try.prog 116 7 a116 [.tmp 2] := ⟨Try.call116, _, _, Try.func116, rfl, by kernel_rfl, by kernel_rfl, rfl⟩
namespace Sc
theorem k_few (h : Hd) : FOk P 23 [eHd h] (.bool (decide ((h.res.length : Int) ≤ 8))) := by
  refine c23.fok (by simp only [free_Hs, free_Hd, subs, sub1, free_Se]) (Cor.run (noC_good _) (noHx_good _) hm ?_)
  simp +contextual -implicitDefEqProofs (maxSteps := 2000000) only [bg_eq, a23, List.length_map, ruB, rh_no, Int.reduceLT, Int.reduceLE, Int.reduceAdd, Int.reduceSub, Int.reduceMul, Int.reduceNeg, Int.reduceToNat, Int.reduceEq, Int.reduceNe, Int.reduceTDiv, Int.reduceTMod, implies_true, putL, appN, appX, appC, Eng.Fi, reduceCtorEq, exists_eq_left', exists_eq_left, if_true, if_false, List.replicate, Nat.reduceAdd, Nat.reduceSub, Nat.reduceMul, Nat.reduceLeDiff, Nat.reduceLT, Nat.reduceEqDiff]
def cf_few : List AV → Option AV
  | [h_v] => onH h_v fun h => some (.bool (decide ((h.res.length : Int) ≤ 8)))
  | _ => none
theorem g_few : Fn P 23 cf_few := fun args v hh => by
  unfold cf_few at hh; split at hh
  · obtain ⟨h, rfl, hh1⟩ := onH_inv hh
    have hk := Option.some.inj hh1; subst hk; exact k_few _
  · cases hh
theorem x_few (h : Hd) : cf_few [eHd h] = some (.bool (decide ((h.res.length : Int) ≤ 8))) := by
  simp only [cf_few, onH_e]
theorem k_CopyHead (h : Hd) (hl : h.res.length ≤ 1000) : FOk P 25 [eHd h] (eHd h) := by
  have m1 : (h.res.length ≤ maxLen) = True := mx (by omega)
  have m2 : (h.res.length * 32 ≤ 140737488355328) = True := by simp only [eq_iff_iff, iff_true]; omega
  have m3 : (h.res.map eSe).all (fun v => decide (v.cells.length = 4)) = true := by simp [List.all_map, AV.cells]
  have t1 : (h.res.map eSe).take h.res.length = h.res.map eSe := by rw [List.take_of_length_le]; simp
  refine c25.fok (y := YH P noHx) (by simp only [free_Hs, free_Hd, subs, sub1, free_Se]) ?_
  rw [bg_eq]
  refine Cor.seq (Cor.run (noC_good _) (noHx_good _) hm ?_)
  simp +contextual -implicitDefEqProofs (maxSteps := 2000000) only [eThen_normal, ruH, ruB, Int.reduceLT, Int.reduceLE, Int.reduceAdd, Int.reduceSub, Int.reduceMul, Int.reduceNeg, Int.reduceToNat, Int.reduceEq, Int.reduceNe, Int.reduceTDiv, Int.reduceTMod, implies_true, putL, appN, appX, appC, Eng.Fi, reduceCtorEq, exists_eq_left', exists_eq_left, if_true, if_false, List.replicate, Nat.reduceAdd, Nat.reduceSub, Nat.reduceMul, Nat.reduceLeDiff, Nat.reduceLT, Nat.reduceEqDiff]
  refine Cor.seq (Cor.run (noC_good _) (noHx_good _) hm ?_)
  simp +contextual -implicitDefEqProofs (maxSteps := 2000000) only [eThen_normal, List.length_map, m1, m2, m3, ruH, ruB, Int.reduceLT, Int.reduceLE, Int.reduceAdd, Int.reduceSub, Int.reduceMul, Int.reduceNeg, Int.reduceToNat, Int.reduceEq, Int.reduceNe, Int.reduceTDiv, Int.reduceTMod, implies_true, putL, appN, appX, appC, Eng.Fi, reduceCtorEq, exists_eq_left', exists_eq_left, if_true, if_false, List.replicate, Nat.reduceAdd, Nat.reduceSub, Nat.reduceMul, Nat.reduceLeDiff, Nat.reduceLT, Nat.reduceEqDiff]
  refine Cor.wk (s2 := ⟨[.any, .ptr 0 7 0 0, .ptr 1 7 0 0, .any, .any, .any, .any, .any, .any], [⟨1, 1, .rows 42 7 [.agg [I 0, I 0, I 0, I 0, I 0, I 0, .nilslice]]⟩, ⟨0, 0, .rows 42 7 [eHd h]⟩], 2⟩) (Wkn.to ⟨0, [(0, 0), (1, 1)], [3], 2, [1, 2]⟩ rfl rfl (by simp [Wk.st, keepT, memN, Wk.fate, Wk.fate0, assoc, getE, Wk.hp, ABlk.sub, sub1, subs, free_Se, t1])) ?_
  refine Cor.run (noC_good _) (noHx_good _) hm ?_
  simp +contextual -implicitDefEqProofs (maxSteps := 2000000) only [free_Se, ruH, ruB, Int.reduceLT, Int.reduceLE, Int.reduceAdd, Int.reduceSub, Int.reduceMul, Int.reduceNeg, Int.reduceToNat, Int.reduceEq, Int.reduceNe, Int.reduceTDiv, Int.reduceTMod, implies_true, putL, appN, appX, appC, Eng.Fi, reduceCtorEq, exists_eq_left', exists_eq_left, if_true, if_false, List.replicate, Nat.reduceAdd, Nat.reduceSub, Nat.reduceMul, Nat.reduceLeDiff, Nat.reduceLT, Nat.reduceEqDiff]
def cf_CopyHead : List AV → Option AV
  | [h_v] => onH h_v fun h => if h.res.length ≤ 1000 then some (eHd h) else none
  | _ => none
theorem g_CopyHead : Fn P 25 cf_CopyHead := fun args v hh => by
  unfold cf_CopyHead at hh; split at hh
  · obtain ⟨h, rfl, hh1⟩ := onH_inv hh
    split at hh1
    · rename_i hc; have hk := Option.some.inj hh1; subst hk; exact k_CopyHead _ hc
    · cases hh1
  · cases hh
theorem x_CopyHead (h : Hd) (hc : (h.res.length ≤ 1000) = True) : cf_CopyHead [eHd h] = some (eHd h) := by
  simp only [cf_CopyHead, onH_e]
  exact if_pos (by rw [hc]; trivial)
theorem tm_emod (n b : Int) (hb : 0 < b) : (n.tmod b < 0 → n % b = n.tmod b + b) ∧ (0 ≤ n.tmod b → n % b = n.tmod b) ∧ -b < n.tmod b ∧ n.tmod b < b := by
  have l1 := Int.lt_tmod_of_pos n hb
  have l2 := Int.tmod_lt_of_pos n hb
  have k : n % b = (n.tmod b) % b := by
    conv => lhs; rw [← Int.tmod_add_mul_tdiv n b]
    exact Int.add_mul_emod_self_left _ _ _
  refine ⟨fun h => ?_, fun h => ?_, l1, l2⟩
  · rw [k, ← Int.add_emod_right]; exact Int.emod_eq_of_lt (by omega) (by omega)
  · rw [k]; exact Int.emod_eq_of_lt h l2
theorem k_Mod (n b : Int) (h : 0 < b ∧ b ≤ 4611686018427387904) : FOk P 46 [I n, I b] (I (n % b)) := by
  obtain ⟨h1, h2, h3, h4⟩ := tm_emod n b h.1
  have hb : (b = 0) = False := by simp only [eq_iff_iff, iff_false]; omega
  by_cases hn : n.tmod b < 0
  · rw [h1 hn]
    have w : IntKind.wrap .i64 (n.tmod b + b) = n.tmod b + b := wrap64 (by omega) (by omega)
    refine c46.fok rfl (Cor.run (noC_good _) (noHx_good _) hm ?_)
    simp +contextual -implicitDefEqProofs (maxSteps := 2000000) only [bg_eq, a46, hb, hn, w, ruB, rh_no, Int.reduceLT, Int.reduceLE, Int.reduceAdd, Int.reduceSub, Int.reduceMul, Int.reduceNeg, Int.reduceToNat, Int.reduceEq, Int.reduceNe, Int.reduceTDiv, Int.reduceTMod, implies_true, putL, appN, appX, appC, Eng.Fi, reduceCtorEq, exists_eq_left', exists_eq_left, if_true, if_false, List.replicate, Nat.reduceAdd, Nat.reduceSub, Nat.reduceMul, Nat.reduceLeDiff, Nat.reduceLT, Nat.reduceEqDiff]
  · rw [h2 (by omega)]
    refine c46.fok rfl (Cor.run (noC_good _) (noHx_good _) hm ?_)
    simp +contextual -implicitDefEqProofs (maxSteps := 2000000) only [bg_eq, a46, hb, hn, ruB, rh_no, Int.reduceLT, Int.reduceLE, Int.reduceAdd, Int.reduceSub, Int.reduceMul, Int.reduceNeg, Int.reduceToNat, Int.reduceEq, Int.reduceNe, Int.reduceTDiv, Int.reduceTMod, implies_true, putL, appN, appX, appC, Eng.Fi, reduceCtorEq, exists_eq_left', exists_eq_left, if_true, if_false, List.replicate, Nat.reduceAdd, Nat.reduceSub, Nat.reduceMul, Nat.reduceLeDiff, Nat.reduceLT, Nat.reduceEqDiff]
def cf_Mod : List AV → Option AV
  | [.int .i64 n, .int .i64 b] => if 0 < b ∧ b ≤ 4611686018427387904 then some (I (n % b)) else none
  | _ => none
theorem g_Mod : Fn P 46 cf_Mod := fun args v hh => by
  unfold cf_Mod at hh; split at hh
  · split at hh
    · rename_i hc; have hk := Option.some.inj hh; subst hk; exact k_Mod _ _ hc
    · cases hh
  · cases hh
theorem x_Mod (n : Int) (b : Int) (hc : (0 < b ∧ b ≤ 4611686018427387904) = True) : cf_Mod [.int .i64 n, .int .i64 b] = some (I (n % b)) := by
  exact if_pos (by rw [hc]; trivial)
theorem k_Size (n : Int) (h : -4611686018427387904 ≤ n ∧ n ≤ 4611686018427387904) : FOk P 116 [I n] (I (max n (-n))) := by
  have w : IntKind.wrap .i64 (0 - n) = -n := by rw [wrap64 (by omega) (by omega)]; omega
  refine c116.fok rfl (Cor.run (noC_good _) (noHx_good _) hm ?_)
  simp +contextual -implicitDefEqProofs (maxSteps := 2000000) only [bg_eq, a116, w, ruB, rh_no, Int.reduceLT, Int.reduceLE, Int.reduceAdd, Int.reduceSub, Int.reduceMul, Int.reduceNeg, Int.reduceToNat, Int.reduceEq, Int.reduceNe, Int.reduceTDiv, Int.reduceTMod, implies_true, putL, appN, appX, appC, Eng.Fi, reduceCtorEq, exists_eq_left', exists_eq_left, if_true, if_false, List.replicate, Nat.reduceAdd, Nat.reduceSub, Nat.reduceMul, Nat.reduceLeDiff, Nat.reduceLT, Nat.reduceEqDiff]
def cf_Size : List AV → Option AV
  | [.int .i64 n] => if -4611686018427387904 ≤ n ∧ n ≤ 4611686018427387904 then some (I (max n (-n))) else none
  | _ => none
theorem g_Size : Fn P 116 cf_Size := fun args v hh => by
  unfold cf_Size at hh; split at hh
  · split at hh
    · rename_i hc; have hk := Option.some.inj hh; subst hk; exact k_Size _ hc
    · cases hh
  · cases hh
theorem x_Size (n : Int) (hc : (-4611686018427387904 ≤ n ∧ n ≤ 4611686018427387904) = True) : cf_Size [.int .i64 n] = some (I (max n (-n))) := by
  exact if_pos (by rw [hc]; trivial)
def S96 (s : Se) (d : Dr) (p : Nat × Int) : AState := ⟨[.any, .any, .ptr 0 4 0 0, .ptr 1 2 0 0, .any, I p.2, .any, .any, .any, .any, .any, .any, .any, .any, .any, .any, .any, .any, .any, .any, .any, .any, .any, .any, .any, .any, .any, .any, .any, .any], [⟨1, 1, .rows 37 2 [eDr d]⟩, ⟨0, 0, .rows 121 4 [eSe s]⟩], 2⟩
theorem k_rIsIn (s : Se) (d : Dr) (hc : seR s ∧ drR d) : FOk P 96 [eSe s, eDr d] (.bool (decide (hasP s d))) := by
  obtain ⟨hs, hd⟩ := hc
  unfold seR azR at hs
  unfold drR azR at hd
  have u1 := upw_bd s.alo d.az
  have u2 := upw_bd s.alo s.ahi
  refine c96.fok rfl (Cor.run (addC_good g_Within (addC_good g_Mod (noC_good _))) (noHx_good _) hm ?_)
  simp +contextual -implicitDefEqProofs (maxSteps := 2000000) only [bg_eq, a96, ruB, rh_no, Int.reduceLT, Int.reduceLE, Int.reduceAdd, Int.reduceSub, Int.reduceMul, Int.reduceNeg, Int.reduceToNat, Int.reduceEq, Int.reduceNe, Int.reduceTDiv, Int.reduceTMod, implies_true, putL, appN, appX, appC, Eng.Fi, reduceCtorEq, exists_eq_left', exists_eq_left, if_true, if_false, List.replicate, Nat.reduceAdd, Nat.reduceSub, Nat.reduceMul, Nat.reduceLeDiff, Nat.reduceLT, Nat.reduceEqDiff]
  refine Cor.lp (addC_good g_Within (addC_good g_Mod (noC_good _))) (noHx_good _) hm (S96 s d) (fun p => (p.2 = (s.alo + p.1) % 360 ∧ (p.1 : Int) ≤ upw s.alo d.az) ∧ (p.1 : Int) ≤ upw s.alo s.ahi) (fun p => 400 - p.1) (a := (0, s.alo)) ⟨⟨by simp only; omega, by simp only; omega⟩, by simp only; omega⟩ (Wkn.to ⟨0, [(0, 0), (1, 1)], [], 2, [2, 3, 5]⟩ rfl rfl (by simp [Wk.st, keepT, memN, Wk.fate, Wk.fate0, assoc, getE, Wk.hp, ABlk.sub, sub1, subs, S96])) ?_
  rintro f ⟨k, a⟩ ⟨⟨ha, h1⟩, h2⟩ go
  simp only at ha h1 h2
  by_cases e1 : a = d.az
  · have hk : (k : Int) = upw s.alo d.az := by unfold upw at *; omega
    have hv : hasP s d ↔ (s.elo ≤ d.el ∧ d.el ≤ s.ehi) := by
      unfold hasP
      exact ⟨fun h => h.2, fun h => ⟨by omega, h⟩⟩
    have hv' : decide (hasP s d) = decide (s.elo ≤ d.el ∧ d.el ≤ s.ehi) := decide_eq_decide.2 hv
    rw [hv']
    simp +contextual -implicitDefEqProofs (maxSteps := 2000000) only [S96, e1, x_Within, ruB, rh_no, Int.reduceLT, Int.reduceLE, Int.reduceAdd, Int.reduceSub, Int.reduceMul, Int.reduceNeg, Int.reduceToNat, Int.reduceEq, Int.reduceNe, Int.reduceTDiv, Int.reduceTMod, implies_true, putL, appN, appX, appC, Eng.Fi, reduceCtorEq, exists_eq_left', exists_eq_left, if_true, if_false, List.replicate, Nat.reduceAdd, Nat.reduceSub, Nat.reduceMul, Nat.reduceLeDiff, Nat.reduceLT, Nat.reduceEqDiff]
  · have hk : (k : Int) < upw s.alo d.az := by
      rcases Int.lt_or_eq_of_le h1 with h | h
      · exact h
      · exfalso; apply e1; unfold upw at h; omega
    by_cases e2 : a = s.ahi
    · have hk2 : (k : Int) = upw s.alo s.ahi := by unfold upw at *; omega
      have hv : ¬ hasP s d := fun h => by have := h.1; omega
      rw [decide_eq_false hv]
      have e1' := eq_false e1
      have e2' := eq_true e2
      simp +contextual -implicitDefEqProofs (maxSteps := 2000000) only [S96, e1', e2', x_Within, ruB, rh_no, Int.reduceLT, Int.reduceLE, Int.reduceAdd, Int.reduceSub, Int.reduceMul, Int.reduceNeg, Int.reduceToNat, Int.reduceEq, Int.reduceNe, Int.reduceTDiv, Int.reduceTMod, implies_true, putL, appN, appX, appC, Eng.Fi, reduceCtorEq, exists_eq_left', exists_eq_left, if_true, if_false, List.replicate, Nat.reduceAdd, Nat.reduceSub, Nat.reduceMul, Nat.reduceLeDiff, Nat.reduceLT, Nat.reduceEqDiff]
    · have hk2 : (k : Int) < upw s.alo s.ahi := by
        rcases Int.lt_or_eq_of_le h2 with h | h
        · exact h
        · exfalso; apply e2; unfold upw at h; omega
      have w : IntKind.wrap .i64 (a + 1) = a + 1 := wrap64 (by omega) (by omega)
      have y := x_Mod (a + 1) 360 (by simp)
      simp +contextual -implicitDefEqProofs (maxSteps := 2000000) only [S96, e1, e2, w, y, ruB, rh_no, Int.reduceLT, Int.reduceLE, Int.reduceAdd, Int.reduceSub, Int.reduceMul, Int.reduceNeg, Int.reduceToNat, Int.reduceEq, Int.reduceNe, Int.reduceTDiv, Int.reduceTMod, implies_true, putL, appN, appX, appC, Eng.Fi, reduceCtorEq, exists_eq_left', exists_eq_left, if_true, if_false, List.replicate, Nat.reduceAdd, Nat.reduceSub, Nat.reduceMul, Nat.reduceLeDiff, Nat.reduceLT, Nat.reduceEqDiff]
      exact go _ (k + 1, (a + 1) % 360) ⟨⟨by simp only; omega, by simp only; omega⟩, by simp only; omega⟩ (by simp only; omega) (Wkn.to ⟨0, [(0, 0), (1, 1)], [], 2, [2, 3, 5]⟩ rfl rfl (by simp [Wk.st, keepT, memN, Wk.fate, Wk.fate0, assoc, getE, Wk.hp, ABlk.sub, sub1, subs, S96]))
def cf_rIsIn : List AV → Option AV
  | [.agg [.int .i64 s_alo, .int .i64 s_ahi, .int .i64 s_elo, .int .i64 s_ehi], .agg [.int .i64 d_az, .int .i64 d_el]] => if seR (⟨s_alo, s_ahi, s_elo, s_ehi⟩ : Se) ∧ drR (⟨d_az, d_el⟩ : Dr) then some (.bool (decide (hasP (⟨s_alo, s_ahi, s_elo, s_ehi⟩ : Se) (⟨d_az, d_el⟩ : Dr)))) else none
  | _ => none
theorem g_rIsIn : Fn P 96 cf_rIsIn := fun args v hh => by
  unfold cf_rIsIn at hh; split at hh
  · split at hh
    · rename_i hc; have hk := Option.some.inj hh; subst hk; exact k_rIsIn ⟨_, _, _, _⟩ ⟨_, _⟩ hc
    · cases hh
  · cases hh
theorem x_rIsIn (s : Se) (d : Dr) (hc : (seR s ∧ drR d) = True) : cf_rIsIn [.agg [I s.alo, I s.ahi, I s.elo, I s.ehi], .agg [I d.az, I d.el]] = some (.bool (decide (hasP s d))) := by
  exact if_pos (by rw [hc]; trivial)
theorem resv_drop {d : Dr} {l : List Se} {n : Nat} (h : n < l.length) (hc : ¬ hasP l[n] d) : resv (l.drop n) d = resv (l.drop (n + 1)) d := by
  rw [List.drop_eq_getElem_cons h, resv, List.any_cons]
  simp only [hc, decide_false, Bool.false_or]; rfl
def S45 (h : Hd) (d : Dr) (n : Nat) : AState := ⟨[.any, .any, .ptr 0 7 0 0, .ptr 1 2 0 0, .any, I n, .any, .any, .any, .any, .any, .any, .any, .any, .any, .any, .any, .any, .any, .any], [⟨1, 1, .rows 37 2 [eDr d]⟩, ⟨0, 0, .rows 42 7 [eHd h]⟩], 2⟩
theorem k_rIsReserved (h : Hd) (d : Dr) (hk : okR h.res d) : FOk P 45 [eHd h, eDr d] (.bool (resv h.res d)) := by
  obtain ⟨⟨hl, hs⟩, hd⟩ := hk
  refine c45.fok (by simp only [free_Hs, free_Hd, subs, sub1, free_Se]) (Cor.run (addC_good g_rIsIn (noC_good _)) (noHx_good _) hm ?_)
  simp +contextual -implicitDefEqProofs (maxSteps := 2000000) only [bg_eq, a45, ruB, rh_no, Int.reduceLT, Int.reduceLE, Int.reduceAdd, Int.reduceSub, Int.reduceMul, Int.reduceNeg, Int.reduceToNat, Int.reduceEq, Int.reduceNe, Int.reduceTDiv, Int.reduceTMod, implies_true, putL, appN, appX, appC, Eng.Fi, reduceCtorEq, exists_eq_left', exists_eq_left, if_true, if_false, List.replicate, Nat.reduceAdd, Nat.reduceSub, Nat.reduceMul, Nat.reduceLeDiff, Nat.reduceLT, Nat.reduceEqDiff]
  refine Cor.lp (addC_good g_rIsIn (noC_good _)) (noHx_good _) hm (S45 h d) (fun n => n ≤ h.res.length ∧ resv h.res d = resv (h.res.drop n) d) (fun n => h.res.length - n) (a := 0) ⟨Nat.zero_le _, rfl⟩ (Wkn.to ⟨0, [(0, 0), (1, 1)], [], 2, [2, 3, 5]⟩ rfl rfl (by simp only [Wk.st, keepT, sub1, subs, Wk.hp, ABlk.sub, S45, free_Se]; try rfl)) ?_
  intro f n ⟨hn, hf⟩ go
  rcases Nat.lt_or_ge n h.res.length with hlt | hlt
  · have e1 : decide ((n : Int) < (h.res.length : Int)) = true := lt_t hlt
    have e2 : (h.res.map eSe)[n]? = some (eSe h.res[n]) := get_e eSe h.res hlt
    have e3 : IntKind.wrap .i64 ((n : Int) + 1) = ((n + 1 : Nat) : Int) := suc_w (by omega)
    have y := x_rIsIn h.res[n] d (by simp only [eq_iff_iff, iff_true]; exact ⟨hs _ (by simp), hd⟩)
    by_cases hc : hasP h.res[n] d
    · have hv : resv h.res d = true := by
        rw [hf, List.drop_eq_getElem_cons hlt, resv, List.any_cons]; simp only [hc, decide_true, Bool.true_or]
      rw [hv]
      simp +contextual -implicitDefEqProofs (maxSteps := 2000000) only [S45, e1, e2, e3, y, hc, List.length_map, ruB, rh_no, Int.reduceLT, Int.reduceLE, Int.reduceAdd, Int.reduceSub, Int.reduceMul, Int.reduceNeg, Int.reduceToNat, Int.reduceEq, Int.reduceNe, Int.reduceTDiv, Int.reduceTMod, implies_true, putL, appN, appX, appC, Eng.Fi, reduceCtorEq, exists_eq_left', exists_eq_left, if_true, if_false, List.replicate, Nat.reduceAdd, Nat.reduceSub, Nat.reduceMul, Nat.reduceLeDiff, Nat.reduceLT, Nat.reduceEqDiff]
    · have hv := resv_drop hlt hc
      simp +contextual -implicitDefEqProofs (maxSteps := 2000000) only [S45, e1, e2, e3, y, hc, List.length_map, ruB, rh_no, Int.reduceLT, Int.reduceLE, Int.reduceAdd, Int.reduceSub, Int.reduceMul, Int.reduceNeg, Int.reduceToNat, Int.reduceEq, Int.reduceNe, Int.reduceTDiv, Int.reduceTMod, implies_true, putL, appN, appX, appC, Eng.Fi, reduceCtorEq, exists_eq_left', exists_eq_left, if_true, if_false, List.replicate, Nat.reduceAdd, Nat.reduceSub, Nat.reduceMul, Nat.reduceLeDiff, Nat.reduceLT, Nat.reduceEqDiff]
      exact go _ (n + 1) ⟨hlt, by rw [hf, hv]⟩ (by omega) (Wkn.to ⟨0, [(0, 0), (1, 1)], [], 2, [2, 3, 5]⟩ rfl rfl (by simp only [Wk.st, keepT, sub1, subs, Wk.hp, ABlk.sub, S45, free_Se]; try rfl))
  · have e1 : decide ((n : Int) < (h.res.length : Int)) = false := lt_f hlt
    have hv : resv h.res d = false := by rw [hf, List.drop_eq_nil_of_le hlt]; rfl
    rw [hv]
    simp +contextual -implicitDefEqProofs (maxSteps := 2000000) only [S45, e1, List.length_map, ruB, rh_no, Int.reduceLT, Int.reduceLE, Int.reduceAdd, Int.reduceSub, Int.reduceMul, Int.reduceNeg, Int.reduceToNat, Int.reduceEq, Int.reduceNe, Int.reduceTDiv, Int.reduceTMod, implies_true, putL, appN, appX, appC, Eng.Fi, reduceCtorEq, exists_eq_left', exists_eq_left, if_true, if_false, List.replicate, Nat.reduceAdd, Nat.reduceSub, Nat.reduceMul, Nat.reduceLeDiff, Nat.reduceLT, Nat.reduceEqDiff]
def cf_rIsReserved : List AV → Option AV
  | [h_v, .agg [.int .i64 d_az, .int .i64 d_el]] => onH h_v fun h => if okR h.res (⟨d_az, d_el⟩ : Dr) then some (.bool (resv h.res (⟨d_az, d_el⟩ : Dr))) else none
  | _ => none
theorem g_rIsReserved : Fn P 45 cf_rIsReserved := fun args v hh => by
  unfold cf_rIsReserved at hh; split at hh
  · obtain ⟨h, rfl, hh1⟩ := onH_inv hh
    split at hh1
    · rename_i hc; have hk := Option.some.inj hh1; subst hk; exact k_rIsReserved _ ⟨_, _⟩ hc
    · cases hh1
  · cases hh
theorem x_rIsReserved (h : Hd) (d : Dr) (hc : (okR h.res d) = True) : cf_rIsReserved [eHd h, .agg [I d.az, I d.el]] = some (.bool (resv h.res d)) := by
  simp only [cf_rIsReserved, onH_e]
  exact if_pos (by rw [hc]; trivial)
end Sc
