import Derived.Test.YtabkbhpeeefmgabEngS9
import Derived.Test.YtabkbhpeeefmgabW904
open Go Go.Proofs Eng
set_option maxRecDepth 100000
set_option linter.unusedSimpArgs false
set_option linter.unusedVariables false
def a33 : AC := .seq (.ops false [] [⟨some 1, .box 84 10 1 true, [.t 0], none⟩, ⟨some 2, .alloc 75 4 [.agg [.int .i64 0, .int .i64 0, .int .i64 0, .int .i64 0]], [], none⟩, ⟨some 3, .p (.mov), [.c (.int .i64 0)], none⟩, ⟨some 4, .p (.mov), [.c (.int .i64 0)], none⟩]) (.seq (.seq (.ops false [] [⟨some 10, .load 10 true, [.t 1], none⟩, ⟨some 11, .call 66, [.t 10], none⟩, ⟨some 5, .p (.mov), [.t 11], none⟩]) (.seq (.ops false [] [⟨some 12, .p (.mov), [.t 5], none⟩, ⟨some 13, .p (.binI .neq), [.t 12, .c (.int .i64 0)], none⟩]) (.cond (.t 13) (.seq (.ops false [] [⟨some 14, .p (.build [.int .i64 0, .int .i64 0, .int .i64 0, .int .i64 0] []), [], none⟩, ⟨some 15, .p (.mov), [.t 5], none⟩, ⟨none, .store 4 true, [.t 2, .t 14], none⟩, ⟨some 3, .p (.mov), [.c (.int .i64 0)], none⟩, ⟨some 4, .p (.mov), [.t 15], none⟩]) (.ret)) (.skip)))) (.seq (.ops false [] [⟨some 6, .alloc 75 4 [.agg [.int .i64 0, .int .i64 0, .int .i64 0, .int .i64 0]], [], none⟩]) (.seq (.ops false [] [⟨some 7, .alloc 3 1 [.int .i64 0], [], none⟩, ⟨none, .store 1 false, [.t 7, .c (.int .i64 (-1))], none⟩]) (.seq (.seq (.ops false [] [⟨some 16, .load 10 true, [.t 1], none⟩, ⟨some 17, .call 67, [.t 16], none⟩]) (.block 0 (.rf (.t 17) [18, 19] (.seq (.ops false [] [⟨some 8, .alloc 75 4 [.agg [.int .i64 0, .int .i64 0, .int .i64 0, .int .i64 0]], [], none⟩, ⟨none, .store 4 true, [.t 8, .t 18], none⟩]) (.ops false [] [⟨some 9, .p (.mov), [.t 19], none⟩])) (.block 1 (.seq (.ops false [] [⟨some 20, .load 1 false, [.t 7], none⟩, ⟨some 21, .p (.binI .lss), [.t 20, .c (.int .i64 0)], none⟩, ⟨some 22, .p (.mov), [.t 21], none⟩, ⟨some 23, .p (.mov), [.t 9], some (22, false)⟩, ⟨some 24, .load 1 false, [.t 7], some (22, false)⟩, ⟨some 25, .p (.binI .lss), [.t 23, .t 24], some (22, false)⟩, ⟨some 26, .p (.pick), [.t 22, .c (.bool true), .t 25], none⟩]) (.cond (.t 26) (.ops false [] [⟨some 27, .load 4 true, [.t 8], none⟩, ⟨some 28, .p (.mov), [.t 9], none⟩, ⟨none, .store 4 true, [.t 6, .t 27], none⟩, ⟨none, .store 1 false, [.t 7, .t 28], none⟩]) (.skip))))))) (.seq (.ops true [(1, 2)] [⟨some 29, .load 4 true, [.t 6], none⟩, ⟨some 30, .load 1 false, [.t 7], none⟩, ⟨none, .store 4 true, [.t 2, .t 29], none⟩, ⟨some 3, .p (.mov), [.t 30], none⟩, ⟨some 4, .p (.mov), [.c (.int .i64 0)], none⟩]) (.ret))))))
theorem c33 : FnC Try.prog 33 31 a33 [.cell 2 4 true, .tmp 3, .tmp 4] := ⟨Try.call33, _, _, Try.func33, rfl, by kernel_rfl, by kernel_rfl, rfl⟩
def a67 : AC := .seq (.ops false [] [⟨some 1, .box 84 10 1 true, [.t 0], none⟩, ⟨some 2, .p (.mov), [.c (.nilfn)], none⟩]) (.seq (.ops false [] [⟨some 3, .p (.mkfn 101 0), [.t 1], none⟩, ⟨some 2, .p (.mov), [.t 3], none⟩]) (.ret))
theorem c67 : FnC Try.prog 67 4 a67 [.tmp 2] := ⟨Try.call67, _, _, Try.func67, rfl, by kernel_rfl, by kernel_rfl, rfl⟩
def a101 : AC := .seq (.ops false [] [⟨some 8, .p (.faddr 0), [.t 1], none⟩, ⟨some 9, .p (.faddr 0), [.t 8], none⟩, ⟨some 10, .load 1 false, [.t 9], none⟩, ⟨some 3, .p (.mov), [.t 10], none⟩]) (.block 0 (.loop (.seq (.seq (.ops false [] [⟨some 11, .p (.mov), [.t 3], none⟩, ⟨some 12, .p (.faddr 0), [.t 1], none⟩, ⟨some 13, .p (.faddr 1), [.t 12], none⟩, ⟨some 14, .load 1 false, [.t 13], none⟩, ⟨some 15, .p (.binI .leq), [.t 11, .t 14], none⟩]) (.cond (.t 15) (.skip) (.exit 0))) (.seq (.block 1 (.seq (.ops false [] [⟨some 18, .p (.faddr 2), [.t 1], none⟩, ⟨some 19, .p (.faddr 0), [.t 18], none⟩, ⟨some 20, .load 1 false, [.t 19], none⟩, ⟨some 4, .p (.mov), [.t 20], none⟩]) (.block 2 (.loop (.seq (.seq (.ops false [] [⟨some 21, .p (.mov), [.t 4], none⟩, ⟨some 22, .p (.faddr 2), [.t 1], none⟩, ⟨some 23, .p (.faddr 1), [.t 22], none⟩, ⟨some 24, .load 1 false, [.t 23], none⟩, ⟨some 25, .p (.binI .leq), [.t 21, .t 24], none⟩]) (.cond (.t 25) (.skip) (.exit 2))) (.seq (.block 3 (.seq (.ops false [] [⟨some 28, .p (.faddr 5), [.t 1], none⟩, ⟨some 29, .load 1 false, [.t 28], none⟩, ⟨some 30, .p (.lenS), [.t 29], none⟩, ⟨some 31, .p (.mov), [.c (.int .i64 0)], none⟩]) (.block 4 (.loop (.seq (.ops false [] [⟨some 32, .p (.binI .lss), [.t 31, .t 30], none⟩]) (.seq (.cond (.t 32) (.skip) (.exit 4)) (.seq (.block 5 (.seq (.ops false [] [⟨some 33, .p (.iaddrS 1), [.t 29, .t 31], none⟩, ⟨some 34, .load 1 false, [.t 33], none⟩, ⟨some 6, .p (.mov), [.t 34], none⟩]) (.seq (.ops false [] [⟨some 35, .p (.mov), [.t 3], none⟩, ⟨some 36, .p (.mov), [.t 4], none⟩, ⟨some 37, .p (.build [.int .i64 0, .int .i64 0] [(0, 1), (1, 1)]), [.t 35, .t 36], none⟩, ⟨some 38, .p (.faddr 4), [.t 1], none⟩, ⟨some 39, .load 1 false, [.t 38], none⟩, ⟨some 40, .p (.mov), [.t 6], none⟩, ⟨some 41, .p (.build [.int .i64 0, .int .i64 0, .int .i64 0, .int .i64 0] [(0, 2), (2, 1), (3, 1)]), [.t 37, .t 39, .t 40], none⟩, ⟨some 7, .alloc 75 4 [.agg [.int .i64 0, .int .i64 0, .int .i64 0, .int .i64 0]], [], none⟩, ⟨none, .store 4 true, [.t 7, .t 41], none⟩]) (.seq (.ops true [] [⟨some 42, .p (.mov), [.t 0], none⟩, ⟨some 43, .load 4 true, [.t 7], none⟩, ⟨some 44, .load 4 true, [.t 7], none⟩, ⟨some 45, .p (.faddr 6), [.t 1], none⟩, ⟨some 46, .load 3 true, [.t 45], none⟩, ⟨some 47, .p (.faddr 9), [.t 1], none⟩, ⟨some 48, .load 1 false, [.t 47], none⟩, ⟨some 49, .call 102, [.t 44, .t 46, .t 48], none⟩, ⟨some 50, .callv, [.t 42, .t 43, .t 49], none⟩, ⟨some 51, .p (.notB), [.t 50], none⟩]) (.cond (.t 51) (.ret) (.skip)))))) (.ops false [] [⟨some 52, .p (.binI .add), [.t 31, .c (.int .i64 1)], none⟩, ⟨some 31, .p (.mov), [.t 52], none⟩])))))))) (.ops false [] [⟨some 26, .p (.mov), [.t 4], none⟩, ⟨some 27, .p (.binI .add), [.t 26, .c (.int .i64 1)], none⟩, ⟨some 4, .p (.mov), [.t 27], none⟩]))))))) (.ops false [] [⟨some 16, .p (.mov), [.t 3], none⟩, ⟨some 17, .p (.binI .add), [.t 16, .c (.int .i64 1)], none⟩, ⟨some 3, .p (.mov), [.t 17], none⟩])))))
theorem c101 : FnC Try.prog 101 53 a101 [] := ⟨Try.call101, _, _, Try.func101, rfl, by kernel_rfl, by kernel_rfl, rfl⟩
namespace Wa
def pS (x : Sr) (y z : Int) (l : List Int) : List Pa := l.map fun n => ⟨y, z, x.h, n⟩
def pZ (x : Sr) (y : Int) : Nat → Int → List Pa
  | 0, _ => []
  | k + 1, z => pS x y z x.st ++ pZ x y k (z + 1)
def pY (x : Sr) : Nat → Int → List Pa
  | 0, _ => []
  | k + 1, y => pZ x y (x.zh + 1 - x.zl).toNat x.zl ++ pY x k (y + 1)
def prL (x : Sr) : List Pa := pY x (x.yh + 1 - x.yl).toNat x.yl
abbrev eY (x : Sr) (p : Pa) : List AV := [ePa p, I (mfV p x.su x.rd)]
theorem stG_z : ∀ {l : List Int} {a : Int}, stG a l = 0 → ∀ n ∈ l, 1 ≤ n ∧ n ≤ 10000
  | [], _, _, n, h => by simp at h
  | x :: l, a, h, n, hn => by
    rw [stG] at h
    split at h
    · rename_i hx
      rcases List.mem_cons.1 hn with rfl | hn
      · exact unl_zero (firstE_zero hx (unl (1 ≤ n ∧ n ≤ 10000) 2) (by simp)) (by decide)
      · exact stG_z h n hn
    · rename_i hx; exact absurd h hx
/-- what is known of a search without an error -/
structure srR (x : Sr) : Prop where
  y : (-1000 ≤ x.yl ∧ x.yl ≤ x.yh) ∧ x.yh ≤ 1000 ∧ x.yh - x.yl ≤ 12
  z : (0 ≤ x.zl ∧ x.zl ≤ x.zh) ∧ x.zh ≤ 1000 ∧ x.zh - x.zl ≤ 12
  h : 1 ≤ x.h ∧ x.h ≤ 100
  n : 0 < x.st.length ∧ x.st.length ≤ 6
  s : stG 0 x.st = 0
  su : suR x.su
  rd : x.rd.length ≤ 12 ∧ ∀ r ∈ x.rd, rgR r
theorem arG_z {p : Prop} [Decidable p] {a b : Int} (h : arG p a b = 0) : p ∧ a ≤ b ∧ b - a ≤ 12 := by
  unfold arG at h
  split at h
  · rename_i h0
    have := ar_sm h0
    exact ⟨this.1, this.2, unl_zero h (by decide)⟩
  · rename_i h0; exact absurd h h0
theorem srE_z {x : Sr} (h : srE x = 0) : srR x := by
  unfold srE at h
  split at h
  · rename_i h0
    have z := firstE_zero h0
    have a1 := arG_z (z (arG (siR x.yl ∧ siR x.yh) x.yl x.yh) (by simp))
    have a2 := arG_z (z (arG (heR x.zl ∧ heR x.zh) x.zl x.zh) (by simp))
    have a3 := unl_zero (z (unl (1 ≤ x.h ∧ x.h ≤ 100) 2) (by simp)) (by decide)
    have a4 := unl_zero (z (unl (0 < (x.st.length : Int)) 10) (by simp)) (by decide)
    have a5 := unl_zero (z (unl ((x.st.length : Int) ≤ 6) 8) (by simp)) (by decide)
    have z2 := firstE_zero h
    unfold siR at a1
    unfold heR at a2
    exact ⟨by omega, by omega, a3, by omega, z2 (stG 0 x.st) (by simp), suE_z (z2 (suE x.su) (by simp)), rsE_z (z2 (rsE x.rd) (by simp))⟩
  · rename_i h0; exact absurd h h0
theorem sr_mf {x : Sr} (hr : srR x) {y z n : Int} (hy : x.yl ≤ y ∧ y ≤ x.yh) (hz : x.zl ≤ z ∧ z ≤ x.zh) (hn : n ∈ x.st) : mfB ⟨y, z, x.h, n⟩ x.su x.rd := by
  have h1 := stG_z hr.s n hn
  have := hr.y
  have := hr.z
  have := hr.h
  have := hr.rd
  refine ⟨?_, hr.su, by omega, hr.rd.2⟩
  unfold paB ptR siR heR
  simp only
  omega
theorem suY : chkF Try.prog 101 10 8 = true := by kernel_rfl
def S_p1 (x : Sr) (t : Nat) (q : Int × List HEnt × Nat) : AState := ⟨[.yield t, .vp [eSr x] 0 0, .any, I q.1, .any, .any, .any, .any, .any, .any, .any, .any, .any, .any, .any, .any, .any, .any, .any, .any, .any, .any, .any, .any, .any, .any, .any, .any, .any, .any, .any, .any, .any, .any, .any, .any, .any, .any, .any, .any, .any, .any, .any, .any, .any, .any, .any, .any, .any, .any, .any, .any, .any], q.2.1, q.2.2⟩
def S_p2 (x : Sr) (t : Nat) (y : Int) (q : Int × List HEnt × Nat) : AState := ⟨[.yield t, .vp [eSr x] 0 0, .any, I y, I q.1, .any, .any, .any, .any, .any, .any, .any, .any, .any, .any, .any, .any, .any, .any, .any, .any, .any, .any, .any, .any, .any, .any, .any, .any, .any, .any, .any, .any, .any, .any, .any, .any, .any, .any, .any, .any, .any, .any, .any, .any, .any, .any, .any, .any, .any, .any, .any, .any], q.2.1, q.2.2⟩
def S_p3 (x : Sr) (t : Nat) (y z : Int) (q : Nat × List HEnt × Nat) : AState := ⟨[.yield t, .vp [eSr x] 0 0, .any, I y, I z, .any, .any, .any, .any, .any, .any, .any, .any, .any, .any, .any, .any, .any, .any, .any, .any, .any, .any, .any, .any, .any, .any, .any, .any, .vs (x.st.map eI), I x.st.length, I q.1, .any, .any, .any, .any, .any, .any, .any, .any, .any, .any, .any, .any, .any, .any, .any, .any, .any, .any, .any, .any, .any], q.2.1, q.2.2⟩
def S_p4 (x : Sr) (t : Nat) (y z : Int) (k : Nat) (p : Pa) (h : List HEnt) (N : Nat) : AState := ⟨[.yield t, .vp [eSr x] 0 0, .any, I y, I z, .any, .any, .any, .any, .any, .any, .any, .any, .any, .any, .any, .any, .any, .any, .any, .any, .any, .any, .any, .any, .any, .any, .any, .any, .vs (x.st.map eI), I x.st.length, I k, .any, .any, .any, .any, .any, .any, .any, .any, .any, .any, .yield t, ePa p, .any, .any, .any, .any, .any, I (mfV p x.su x.rd), .any, .any, .any], h, N⟩
set_option maxHeartbeats 1000000 in
theorem sqPairs (x : Sr) (hr : srR x) : SeqL P 101 [] [.vp [eSr x] 0 0] ((prL x).map (eY x)) := by
  intro hx t N0 M hp fin htN hn hd
  have hg := HGood_y (P := P) hn
  have by_ := hr.y
  have bz_ := hr.z
  have hn1 : x.st.length ≤ 6 := hr.n.2
  refine c101.lokyS suY (y := YH P hx) (CorS.seq (CorS.of (Cor.run (noC_good _) hg hm ?_)))
  simp +contextual -implicitDefEqProofs (maxSteps := 2000000) only [bg_eq, eThen_normal, ruH, ruB, Int.reduceLT, Int.reduceLE, Int.reduceAdd, Int.reduceSub, Int.reduceMul, Int.reduceNeg, Int.reduceToNat, Int.reduceEq, Int.reduceNe, Int.reduceTDiv, Int.reduceTMod, implies_true, putL, appN, appX, appC, Eng.Fi, reduceCtorEq, exists_eq_left', exists_eq_left, if_true, if_false, List.replicate, Nat.reduceAdd, Nat.reduceSub, Nat.reduceMul, Nat.reduceLeDiff, Nat.reduceLT, Nat.reduceEqDiff]
  refine CorS.block (CorS.loopC (S_p1 x t) (fun q => (x.yl ≤ q.1 ∧ q.1 ≤ x.yh + 1) ∧ DrvL hx t N0 q.2.1 q.2.2 ((pY x (x.yh + 1 - q.1).toNat q.1).map (eY x)) fin M) (fun q => (x.yh + 1 - q.1).toNat) (a := (x.yl, hp, N0)) ?_ ⟨⟨Int.le_refl _, by omega⟩, hd⟩ (Wkn.keep [0, 1, 3] rfl))
  rintro ⟨y, h1, N1⟩ ⟨⟨hy1, hy2⟩, hD⟩
  simp only at hy1 hy2 hD
  have wy : IntKind.wrap .i64 (y + 1) = y + 1 := wrap64 (by omega) (by omega)
  by_cases hy : y ≤ x.yh
  · have hy' := eq_true hy
    have ey : (x.yh + 1 - y).toNat = (x.yh + 1 - (y + 1)).toNat + 1 := by omega
    rw [ey, pY] at hD
    refine CorS.seq (CorS.of (Cor.run (noC_good _) hg hm ?_))
    simp +contextual -implicitDefEqProofs (maxSteps := 2000000) only [S_p1, hy', eThen_normal, ruH, ruB, Int.reduceLT, Int.reduceLE, Int.reduceAdd, Int.reduceSub, Int.reduceMul, Int.reduceNeg, Int.reduceToNat, Int.reduceEq, Int.reduceNe, Int.reduceTDiv, Int.reduceTMod, implies_true, putL, appN, appX, appC, Eng.Fi, reduceCtorEq, exists_eq_left', exists_eq_left, if_true, if_false, List.replicate, Nat.reduceAdd, Nat.reduceSub, Nat.reduceMul, Nat.reduceLeDiff, Nat.reduceLT, Nat.reduceEqDiff]
    refine CorS.seq (CorS.block (CorS.seq (CorS.of (Cor.run (noC_good _) hg hm ?_))))
    simp +contextual -implicitDefEqProofs (maxSteps := 2000000) only [eThen_normal, ruH, ruB, Int.reduceLT, Int.reduceLE, Int.reduceAdd, Int.reduceSub, Int.reduceMul, Int.reduceNeg, Int.reduceToNat, Int.reduceEq, Int.reduceNe, Int.reduceTDiv, Int.reduceTMod, implies_true, putL, appN, appX, appC, Eng.Fi, reduceCtorEq, exists_eq_left', exists_eq_left, if_true, if_false, List.replicate, Nat.reduceAdd, Nat.reduceSub, Nat.reduceMul, Nat.reduceLeDiff, Nat.reduceLT, Nat.reduceEqDiff]
    refine CorS.block (CorS.loopC (S_p2 x t y) (fun q => (x.zl ≤ q.1 ∧ q.1 ≤ x.zh + 1) ∧ DrvL hx t N0 q.2.1 q.2.2 ((pZ x y (x.zh + 1 - q.1).toNat q.1 ++ pY x (x.yh + 1 - (y + 1)).toNat (y + 1)).map (eY x)) fin M) (fun q => (x.zh + 1 - q.1).toNat) (a := (x.zl, h1, N1)) ?_ ⟨⟨Int.le_refl _, by omega⟩, hD⟩ (Wkn.keep [0, 1, 3, 4] rfl))
    rintro ⟨z, h2, N2⟩ ⟨⟨hz1, hz2⟩, hD⟩
    simp only at hz1 hz2 hD
    have wz : IntKind.wrap .i64 (z + 1) = z + 1 := wrap64 (by omega) (by omega)
    by_cases hz : z ≤ x.zh
    · have hz' := eq_true hz
      have ez : (x.zh + 1 - z).toNat = (x.zh + 1 - (z + 1)).toNat + 1 := by omega
      rw [ez, pZ, List.append_assoc] at hD
      generalize hrest : pZ x y (x.zh + 1 - (z + 1)).toNat (z + 1) ++ pY x (x.yh + 1 - (y + 1)).toNat (y + 1) = rest at *
      refine CorS.seq (CorS.of (Cor.run (noC_good _) hg hm ?_))
      simp +contextual -implicitDefEqProofs (maxSteps := 2000000) only [S_p2, hz', eThen_normal, ruH, ruB, Int.reduceLT, Int.reduceLE, Int.reduceAdd, Int.reduceSub, Int.reduceMul, Int.reduceNeg, Int.reduceToNat, Int.reduceEq, Int.reduceNe, Int.reduceTDiv, Int.reduceTMod, implies_true, putL, appN, appX, appC, Eng.Fi, reduceCtorEq, exists_eq_left', exists_eq_left, if_true, if_false, List.replicate, Nat.reduceAdd, Nat.reduceSub, Nat.reduceMul, Nat.reduceLeDiff, Nat.reduceLT, Nat.reduceEqDiff]
      refine CorS.seq (CorS.block (CorS.seq (CorS.of (Cor.run (noC_good _) hg hm ?_))))
      simp +contextual -implicitDefEqProofs (maxSteps := 2000000) only [List.length_map, eThen_normal, ruH, ruB, Int.reduceLT, Int.reduceLE, Int.reduceAdd, Int.reduceSub, Int.reduceMul, Int.reduceNeg, Int.reduceToNat, Int.reduceEq, Int.reduceNe, Int.reduceTDiv, Int.reduceTMod, implies_true, putL, appN, appX, appC, Eng.Fi, reduceCtorEq, exists_eq_left', exists_eq_left, if_true, if_false, List.replicate, Nat.reduceAdd, Nat.reduceSub, Nat.reduceMul, Nat.reduceLeDiff, Nat.reduceLT, Nat.reduceEqDiff]
      refine CorS.block (CorS.loopC (S_p3 x t y z) (fun q => q.1 ≤ x.st.length ∧ DrvL hx t N0 q.2.1 q.2.2 ((pS x y z (x.st.drop q.1) ++ rest).map (eY x)) fin M) (fun q => x.st.length - q.1) (a := (0, h2, N2)) ?_ ⟨Nat.zero_le _, hD⟩ (Wkn.keep [0, 1, 3, 4, 29, 30, 31] rfl))
      rintro ⟨k, h3, N3⟩ ⟨hk, hD⟩
      simp only at hk hD
      rcases Nat.lt_or_ge k x.st.length with h | h
      · have e1 : decide ((k : Int) < (x.st.length : Int)) = true := lt_t h
        have e2 : (x.st.map eI)[k]? = some (eI x.st[k]) := get_e eI x.st h
        have e3 : IntKind.wrap .i64 ((k : Int) + 1) = ((k + 1 : Nat) : Int) := suc_w (by omega)
        have hmem : x.st[k] ∈ x.st := List.getElem_mem h
        rw [List.drop_eq_getElem_cons h, pS, List.map_cons, List.cons_append, List.map_cons] at hD
        have hmf := sr_mf hr ⟨hy1, hy⟩ ⟨hz1, hz⟩ hmem
        generalize x.st[k] = n at *
        obtain ⟨⟨hNN, hlow⟩, bb, h', N', hyy, hc, hf⟩ := hD
        have htlt : t < N3 := by omega
        have ym := x_misfit ⟨y, z, x.h, n⟩ x.su x.rd (by simp only [hmf])
        refine CorS.seq (CorS.of (Cor.run (noC_good _) hg hm ?_))
        simp +contextual -implicitDefEqProofs (maxSteps := 2000000) only [S_p3, e1, eThen_normal, ruH, ruB, Int.reduceLT, Int.reduceLE, Int.reduceAdd, Int.reduceSub, Int.reduceMul, Int.reduceNeg, Int.reduceToNat, Int.reduceEq, Int.reduceNe, Int.reduceTDiv, Int.reduceTMod, implies_true, putL, appN, appX, appC, Eng.Fi, reduceCtorEq, exists_eq_left', exists_eq_left, if_true, if_false, List.replicate, Nat.reduceAdd, Nat.reduceSub, Nat.reduceMul, Nat.reduceLeDiff, Nat.reduceLT, Nat.reduceEqDiff]
        refine CorS.seq (CorS.of (Cor.run (noC_good _) hg hm ?_))
        simp +contextual -implicitDefEqProofs (maxSteps := 2000000) only [eThen_normal, ruH, ruB, Int.reduceLT, Int.reduceLE, Int.reduceAdd, Int.reduceSub, Int.reduceMul, Int.reduceNeg, Int.reduceToNat, Int.reduceEq, Int.reduceNe, Int.reduceTDiv, Int.reduceTMod, implies_true, putL, appN, appX, appC, Eng.Fi, reduceCtorEq, exists_eq_left', exists_eq_left, if_true, if_false, List.replicate, Nat.reduceAdd, Nat.reduceSub, Nat.reduceMul, Nat.reduceLeDiff, Nat.reduceLT, Nat.reduceEqDiff]
        refine CorS.seq (CorS.block (CorS.seq (CorS.of (Cor.run (noC_good _) hg hm ?_))))
        simp +contextual -implicitDefEqProofs (maxSteps := 2000000) only [e2, eThen_normal, ruH, ruB, Int.reduceLT, Int.reduceLE, Int.reduceAdd, Int.reduceSub, Int.reduceMul, Int.reduceNeg, Int.reduceToNat, Int.reduceEq, Int.reduceNe, Int.reduceTDiv, Int.reduceTMod, implies_true, putL, appN, appX, appC, Eng.Fi, reduceCtorEq, exists_eq_left', exists_eq_left, if_true, if_false, List.replicate, Nat.reduceAdd, Nat.reduceSub, Nat.reduceMul, Nat.reduceLeDiff, Nat.reduceLT, Nat.reduceEqDiff]
        refine CorS.seq (CorS.of (Cor.run (noC_good _) hg hm ?_))
        simp +contextual -implicitDefEqProofs (maxSteps := 2000000) only [eThen_normal, ruH, ruB, Int.reduceLT, Int.reduceLE, Int.reduceAdd, Int.reduceSub, Int.reduceMul, Int.reduceNeg, Int.reduceToNat, Int.reduceEq, Int.reduceNe, Int.reduceTDiv, Int.reduceTMod, implies_true, putL, appN, appX, appC, Eng.Fi, reduceCtorEq, exists_eq_left', exists_eq_left, if_true, if_false, List.replicate, Nat.reduceAdd, Nat.reduceSub, Nat.reduceMul, Nat.reduceLeDiff, Nat.reduceLT, Nat.reduceEqDiff]
        have hsb : ∀ k, Eng.setB h3 N3 N3 k = h3 := fun k => setB_free fun e he => by have := (hlow e he).1.2; omega
        refine CorS.seq (CorS.opsD ((addC_good g_misfit (noC_good _)) : Good P _) hg hm rfl (by decide) ?_)
        simp +contextual -implicitDefEqProofs (maxSteps := 2000000) only [List.filter_cons, List.filter_nil, ym, hsb, okN, ruH, ruB, Int.reduceLT, Int.reduceLE, Int.reduceAdd, Int.reduceSub, Int.reduceMul, Int.reduceNeg, Int.reduceToNat, Int.reduceEq, Int.reduceNe, Int.reduceTDiv, Int.reduceTMod, implies_true, putL, appN, appX, appC, Eng.Fi, reduceCtorEq, exists_eq_left', exists_eq_left, if_true, if_false, List.replicate, Nat.reduceAdd, Nat.reduceSub, Nat.reduceMul, Nat.reduceLeDiff, Nat.reduceLT, Nat.reduceEqDiff]
        refine ⟨S_p4 x t y z k ⟨y, z, x.h, n⟩ h3 N3, Wkn.lowle hNN (A := [⟨N3, N3, .rows 75 4 [ePa ⟨y, z, x.h, n⟩]⟩]) [] [0, 1, 3, 4, 29, 30, 31, 42, 43, 49] ?_ hlow ?_, ?_⟩
        · simp
        · simp [keepT, memN, sub1, subs, free_I, free_Rg, S_p4, Wk.fate, htlt]
        · cases bb with
          | true =>
            simp +contextual -implicitDefEqProofs (maxSteps := 2000000) only [S_p4, hg_cons, hg_nil, hg_n, h_callv, callT_y, hyy, eThen_normal, ruH, ruB, Int.reduceLT, Int.reduceLE, Int.reduceAdd, Int.reduceSub, Int.reduceMul, Int.reduceNeg, Int.reduceToNat, Int.reduceEq, Int.reduceNe, Int.reduceTDiv, Int.reduceTMod, implies_true, putL, appN, appX, appC, Eng.Fi, reduceCtorEq, exists_eq_left', exists_eq_left, if_true, if_false, List.replicate, Nat.reduceAdd, Nat.reduceSub, Nat.reduceMul, Nat.reduceLeDiff, Nat.reduceLT, Nat.reduceEqDiff]
            refine CorS.of (Cor.run (noC_good _) hg hm ?_)
            simp +contextual -implicitDefEqProofs (maxSteps := 2000000) only [eBlk_normal, eThen_normal, ruH, ruB, Int.reduceLT, Int.reduceLE, Int.reduceAdd, Int.reduceSub, Int.reduceMul, Int.reduceNeg, Int.reduceToNat, Int.reduceEq, Int.reduceNe, Int.reduceTDiv, Int.reduceTMod, implies_true, putL, appN, appX, appC, Eng.Fi, reduceCtorEq, exists_eq_left', exists_eq_left, if_true, if_false, List.replicate, Nat.reduceAdd, Nat.reduceSub, Nat.reduceMul, Nat.reduceLeDiff, Nat.reduceLT, Nat.reduceEqDiff]
            refine CorS.of (Cor.run (noC_good _) hg hm ?_)
            simp +contextual -implicitDefEqProofs (maxSteps := 2000000) only [e3, eThen_normal, ruH, ruB, Int.reduceLT, Int.reduceLE, Int.reduceAdd, Int.reduceSub, Int.reduceMul, Int.reduceNeg, Int.reduceToNat, Int.reduceEq, Int.reduceNe, Int.reduceTDiv, Int.reduceTMod, implies_true, putL, appN, appX, appC, Eng.Fi, reduceCtorEq, exists_eq_left', exists_eq_left, if_true, if_false, List.replicate, Nat.reduceAdd, Nat.reduceSub, Nat.reduceMul, Nat.reduceLeDiff, Nat.reduceLT, Nat.reduceEqDiff]
            exact ⟨(k + 1, h', N'), ⟨h, hc rfl⟩, by simp only; omega, Wkn.keep [0, 1, 3, 4, 29, 30, 31] rfl⟩
          | false =>
            simp +contextual -implicitDefEqProofs (maxSteps := 2000000) only [S_p4, hg_cons, hg_nil, hg_n, h_callv, callT_y, hyy, eThen_normal, ruH, ruB, Int.reduceLT, Int.reduceLE, Int.reduceAdd, Int.reduceSub, Int.reduceMul, Int.reduceNeg, Int.reduceToNat, Int.reduceEq, Int.reduceNe, Int.reduceTDiv, Int.reduceTMod, implies_true, putL, appN, appX, appC, Eng.Fi, reduceCtorEq, exists_eq_left', exists_eq_left, if_true, if_false, List.replicate, Nat.reduceAdd, Nat.reduceSub, Nat.reduceMul, Nat.reduceLeDiff, Nat.reduceLT, Nat.reduceEqDiff]
            refine CorS.of (Cor.run (noC_good _) hg hm ?_)
            simp +contextual -implicitDefEqProofs (maxSteps := 2000000) only [eThen_ret, eBlk_ret, FinL, ruH, ruB, Int.reduceLT, Int.reduceLE, Int.reduceAdd, Int.reduceSub, Int.reduceMul, Int.reduceNeg, Int.reduceToNat, Int.reduceEq, Int.reduceNe, Int.reduceTDiv, Int.reduceTMod, implies_true, putL, appN, appX, appC, Eng.Fi, reduceCtorEq, exists_eq_left', exists_eq_left, if_true, if_false, List.replicate, Nat.reduceAdd, Nat.reduceSub, Nat.reduceMul, Nat.reduceLeDiff, Nat.reduceLT, Nat.reduceEqDiff]
            exact ⟨(hf rfl).1.symm, (hf rfl).2.symm⟩
      · have e1 : decide ((k : Int) < (x.st.length : Int)) = false := lt_f h
        rw [List.drop_eq_nil_of_le h] at hD
        refine CorS.seq (CorS.of (Cor.run (noC_good _) hg hm ?_))
        simp +contextual -implicitDefEqProofs (maxSteps := 2000000) only [S_p3, e1, eThen_normal, ruH, ruB, Int.reduceLT, Int.reduceLE, Int.reduceAdd, Int.reduceSub, Int.reduceMul, Int.reduceNeg, Int.reduceToNat, Int.reduceEq, Int.reduceNe, Int.reduceTDiv, Int.reduceTMod, implies_true, putL, appN, appX, appC, Eng.Fi, reduceCtorEq, exists_eq_left', exists_eq_left, if_true, if_false, List.replicate, Nat.reduceAdd, Nat.reduceSub, Nat.reduceMul, Nat.reduceLeDiff, Nat.reduceLT, Nat.reduceEqDiff]
        refine CorS.seq (CorS.of (Cor.run (noC_good _) hg hm ?_))
        simp +contextual -implicitDefEqProofs (maxSteps := 2000000) only [eThen_exit, eBlk_exit, eThen_normal, eBlk_normal, ruH, ruB, Int.reduceLT, Int.reduceLE, Int.reduceAdd, Int.reduceSub, Int.reduceMul, Int.reduceNeg, Int.reduceToNat, Int.reduceEq, Int.reduceNe, Int.reduceTDiv, Int.reduceTMod, implies_true, putL, appN, appX, appC, Eng.Fi, reduceCtorEq, exists_eq_left', exists_eq_left, if_true, if_false, List.replicate, Nat.reduceAdd, Nat.reduceSub, Nat.reduceMul, Nat.reduceLeDiff, Nat.reduceLT, Nat.reduceEqDiff]
        refine CorS.of (Cor.run (noC_good _) hg hm ?_)
        simp +contextual -implicitDefEqProofs (maxSteps := 2000000) only [wz, eThen_normal, ruH, ruB, Int.reduceLT, Int.reduceLE, Int.reduceAdd, Int.reduceSub, Int.reduceMul, Int.reduceNeg, Int.reduceToNat, Int.reduceEq, Int.reduceNe, Int.reduceTDiv, Int.reduceTMod, implies_true, putL, appN, appX, appC, Eng.Fi, reduceCtorEq, exists_eq_left', exists_eq_left, if_true, if_false, List.replicate, Nat.reduceAdd, Nat.reduceSub, Nat.reduceMul, Nat.reduceLeDiff, Nat.reduceLT, Nat.reduceEqDiff]
        exact ⟨(z + 1, h3, N3), ⟨⟨by simp only; omega, by simp only; omega⟩, by rw [hrest]; exact hD⟩, by simp only; omega, Wkn.keep [0, 1, 3, 4] rfl⟩
    · have hz' := eq_false hz
      have ez : (x.zh + 1 - z).toNat = 0 := by omega
      rw [ez, pZ] at hD
      refine CorS.seq (CorS.of (Cor.run (noC_good _) hg hm ?_))
      simp +contextual -implicitDefEqProofs (maxSteps := 2000000) only [S_p2, hz', eThen_exit, eBlk_exit, eThen_normal, eBlk_normal, ruH, ruB, Int.reduceLT, Int.reduceLE, Int.reduceAdd, Int.reduceSub, Int.reduceMul, Int.reduceNeg, Int.reduceToNat, Int.reduceEq, Int.reduceNe, Int.reduceTDiv, Int.reduceTMod, implies_true, putL, appN, appX, appC, Eng.Fi, reduceCtorEq, exists_eq_left', exists_eq_left, if_true, if_false, List.replicate, Nat.reduceAdd, Nat.reduceSub, Nat.reduceMul, Nat.reduceLeDiff, Nat.reduceLT, Nat.reduceEqDiff]
      refine CorS.of (Cor.run (noC_good _) hg hm ?_)
      simp +contextual -implicitDefEqProofs (maxSteps := 2000000) only [wy, eThen_normal, ruH, ruB, Int.reduceLT, Int.reduceLE, Int.reduceAdd, Int.reduceSub, Int.reduceMul, Int.reduceNeg, Int.reduceToNat, Int.reduceEq, Int.reduceNe, Int.reduceTDiv, Int.reduceTMod, implies_true, putL, appN, appX, appC, Eng.Fi, reduceCtorEq, exists_eq_left', exists_eq_left, if_true, if_false, List.replicate, Nat.reduceAdd, Nat.reduceSub, Nat.reduceMul, Nat.reduceLeDiff, Nat.reduceLT, Nat.reduceEqDiff]
      exact ⟨(y + 1, h2, N2), ⟨⟨by simp only; omega, by simp only; omega⟩, hD⟩, by simp only; omega, Wkn.keep [0, 1, 3] rfl⟩
  · have hy' := eq_false hy
    have ey : (x.yh + 1 - y).toNat = 0 := by omega
    rw [ey, pY] at hD
    refine CorS.seq (CorS.of (Cor.run (noC_good _) hg hm ?_))
    simp +contextual -implicitDefEqProofs (maxSteps := 2000000) only [S_p1, hy', eThen_exit, eBlk_exit, FinL, ruH, ruB, Int.reduceLT, Int.reduceLE, Int.reduceAdd, Int.reduceSub, Int.reduceMul, Int.reduceNeg, Int.reduceToNat, Int.reduceEq, Int.reduceNe, Int.reduceTDiv, Int.reduceTMod, implies_true, putL, appN, appX, appC, Eng.Fi, reduceCtorEq, exists_eq_left', exists_eq_left, if_true, if_false, List.replicate, Nat.reduceAdd, Nat.reduceSub, Nat.reduceMul, Nat.reduceLeDiff, Nat.reduceLT, Nat.reduceEqDiff]
    exact ⟨hD.1.symm, hD.2.symm⟩
end Wa
open Go Go.Proofs Eng
set_option maxRecDepth 100000
set_option linter.unusedSimpArgs false
set_option linter.unusedVariables false
namespace Wa
theorem k_pairs (x : Sr) : FOk P 67 [eSr x] (.fn 101 [] [.vp [eSr x] 0 0]) := by
  refine c67.fok (by simp only [subs, sub1, free_I, free_Rg]) (Cor.post (Cor.run (noC_good _) (noHx_good _) hm ?_))
  simp +contextual -implicitDefEqProofs (maxSteps := 2000000) only [bg_eq, a67, ruB, rh_no, Int.reduceLT, Int.reduceLE, Int.reduceAdd, Int.reduceSub, Int.reduceMul, Int.reduceNeg, Int.reduceToNat, Int.reduceEq, Int.reduceNe, Int.reduceTDiv, Int.reduceTMod, implies_true, putL, appN, appX, appC, Eng.Fi, reduceCtorEq, exists_eq_left', exists_eq_left, if_true, if_false, List.replicate, Nat.reduceAdd, Nat.reduceSub, Nat.reduceMul, Nat.reduceLeDiff, Nat.reduceLT, Nat.reduceEqDiff]
  refine ⟨_, Wkn.of ⟨0, [], [0], 1, [2]⟩ rfl, _, rfl, ?_, ?_⟩
  · show some (AV.fn 101 [] [.vp [sub1 _ (eSr x)] 0 0]) = _
    rw [free_Sr]
  · show AV.fn 101 [] [.vp [sub1 _ (eSr x)] 0 0] = _
    rw [free_Sr]
noncomputable def cf_pairs : List AV → Option AV
  | [x_v] => onSr x_v fun x => some (.fn 101 [] [.vp [eSr x] 0 0])
  | _ => none
theorem g_pairs : Fn P 67 cf_pairs := fun args v hh => by
  unfold cf_pairs at hh; split at hh
  · obtain ⟨x, rfl, hh1⟩ := onSr_inv hh
    have hk := Option.some.inj hh1; subst hk; exact k_pairs _
  · cases hh
theorem x_pairs (x : Sr) : cf_pairs [eSr x] = some (.fn 101 [] [.vp [eSr x] 0 0]) := by
  simp only [cf_pairs, onSr_e]
theorem foldS_nx {β : Type} {st : β → List AV → β × Jk} (h : ∀ a v, (st a v).2 = .nx) : ∀ (vs : List (List AV)) (a : β), foldS st a vs = (vs.foldl (fun a v => (st a v).1) a, .nx)
  | [], a => rfl
  | v :: vs, a => by
    rw [foldS_cons, h]
    exact foldS_nx h vs _
def dY : List AV → Pa × Int
  | [.agg [.int _ y, .int _ z, .int _ h, .int _ s], .int _ n] => (⟨y, z, h, s⟩, n)
  | _ => (⟨0, 0, 0, 0⟩, 0)
theorem dY_e (x : Sr) (p : Pa) : dY (eY x p) = (p, mfV p x.su x.rd) := rfl
def stB (c q : Pa × Int) : Pa × Int := if c.2 < 0 ∨ q.2 < c.2 then q else c
def stb (c : Pa × Int) (v : List AV) : (Pa × Int) × Jk := (stB c (dY v), .nx)
def zPa : Pa := ⟨0, 0, 0, 0⟩
def Jbi (c : Pa × Int) : List HEnt := [⟨2, 2, .rows 3 1 [I c.2]⟩, ⟨1, 1, .rows 75 4 [ePa c.1]⟩, ⟨0, 0, .rows 75 4 [ePa zPa]⟩]
theorem Jbi_inj (a b : Pa × Int) (h : Jbi a = Jbi b) : a = b := by
  obtain ⟨⟨a1, a2, a3, a4⟩, a5⟩ := a
  obtain ⟨⟨b1, b2, b3, b4⟩, b5⟩ := b
  simp only [Jbi, List.cons.injEq, HEnt.mk.injEq, ABlk.rows.injEq, AV.agg.injEq, AV.int.injEq, true_and, and_true] at h
  obtain ⟨rfl, rfl, rfl, rfl, rfl⟩ := h
  rfl
def bsL (x : Sr) : Pa × Int := (prL x).foldl (fun c p => stB c (p, mfV p x.su x.rd)) (zPa, -1)
def biV (x : Sr) : AV := if srE x = 0 then .tup [ePa (bsL x).1, I (bsL x).2, I 0] else .tup [ePa zPa, I 0, I (srE x)]
def S_bi (x : Sr) : AState := ⟨[.any, .vp [eSr x] 0 0, .ptr 0 4 0 0, I 0, I 0, .any, .any, .any, .any, .any, .any, .any, .any, .any, .any, .any, .any, .any, .any, .any, .any, .any, .any, .any, .any, .any, .any, .any, .any, .any, .any], [⟨0, 0, .rows 75 4 [ePa zPa]⟩], 1⟩
def S_bi2 (x : Sr) : AState := ⟨[.any, .vp [eSr x] 0 0, .ptr 0 4 0 0, .any, .any, .any, .ptr 1 4 0 0, .ptr 2 1 0 0, .any, .any, .any, .any, .any, .any, .any, .any, .any, .any, .any, .any, .any, .any, .any, .any, .any, .any, .any, .any, .any, .any, .any], Jbi (zPa, -1), 3⟩
theorem k_BestIn (x : Sr) : FOk P 33 [eSr x] (biV x) := by
  have y1 := x_CheckSearch x
  have y2 := x_pairs x
  refine c33.fok (y := YH P noHx) (by simp only [subs, sub1, free_I, free_Rg]) ?_
  rw [bg_eq]
  refine Cor.seq (Cor.run (noC_good _) (noHx_good _) hm ?_)
  simp +contextual -implicitDefEqProofs (maxSteps := 2000000) only [eThen_normal, ruB, rh_no, Int.reduceLT, Int.reduceLE, Int.reduceAdd, Int.reduceSub, Int.reduceMul, Int.reduceNeg, Int.reduceToNat, Int.reduceEq, Int.reduceNe, Int.reduceTDiv, Int.reduceTMod, implies_true, putL, appN, appX, appC, Eng.Fi, reduceCtorEq, exists_eq_left', exists_eq_left, if_true, if_false, List.replicate, Nat.reduceAdd, Nat.reduceSub, Nat.reduceMul, Nat.reduceLeDiff, Nat.reduceLT, Nat.reduceEqDiff]
  refine Cor.wk (s2 := S_bi x) (Wkn.to ⟨0, [(1, 0)], [0], 1, [1, 2, 3, 4]⟩ rfl rfl (by simp [Wk.st, keepT, memN, Wk.fate, Wk.fate0, assoc, getE, Wk.hp, ABlk.sub, sub1, subs, S_bi, free_I, free_Rg, zPa])) ?_
  by_cases h0 : srE x = 0
  · rw [biV, if_pos h0]
    refine Cor.seq (Cor.run (addC_good g_CheckSearch (noC_good _)) (noHx_good _) hm ?_)
    simp +contextual -implicitDefEqProofs (maxSteps := 2000000) only [S_bi, y1, h0, eThen_normal, not_true_eq_false, ruB, rh_no, Int.reduceLT, Int.reduceLE, Int.reduceAdd, Int.reduceSub, Int.reduceMul, Int.reduceNeg, Int.reduceToNat, Int.reduceEq, Int.reduceNe, Int.reduceTDiv, Int.reduceTMod, implies_true, putL, appN, appX, appC, Eng.Fi, reduceCtorEq, exists_eq_left', exists_eq_left, if_true, if_false, List.replicate, Nat.reduceAdd, Nat.reduceSub, Nat.reduceMul, Nat.reduceLeDiff, Nat.reduceLT, Nat.reduceEqDiff]
    refine Cor.seq (Cor.run (noC_good _) (noHx_good _) hm ?_)
    simp +contextual -implicitDefEqProofs (maxSteps := 2000000) only [eThen_normal, ruB, rh_no, Int.reduceLT, Int.reduceLE, Int.reduceAdd, Int.reduceSub, Int.reduceMul, Int.reduceNeg, Int.reduceToNat, Int.reduceEq, Int.reduceNe, Int.reduceTDiv, Int.reduceTMod, implies_true, putL, appN, appX, appC, Eng.Fi, reduceCtorEq, exists_eq_left', exists_eq_left, if_true, if_false, List.replicate, Nat.reduceAdd, Nat.reduceSub, Nat.reduceMul, Nat.reduceLeDiff, Nat.reduceLT, Nat.reduceEqDiff]
    refine Cor.seq (Cor.run (noC_good _) (noHx_good _) hm ?_)
    simp +contextual -implicitDefEqProofs (maxSteps := 2000000) only [eThen_normal, ruB, rh_no, Int.reduceLT, Int.reduceLE, Int.reduceAdd, Int.reduceSub, Int.reduceMul, Int.reduceNeg, Int.reduceToNat, Int.reduceEq, Int.reduceNe, Int.reduceTDiv, Int.reduceTMod, implies_true, putL, appN, appX, appC, Eng.Fi, reduceCtorEq, exists_eq_left', exists_eq_left, if_true, if_false, List.replicate, Nat.reduceAdd, Nat.reduceSub, Nat.reduceMul, Nat.reduceLeDiff, Nat.reduceLT, Nat.reduceEqDiff]
    refine Cor.wk (s2 := S_bi2 x) (Wkn.to ⟨0, [(0, 0), (1, 1), (2, 2)], [], 3, [1, 2, 6, 7]⟩ rfl rfl (by simp [Wk.st, keepT, memN, Wk.fate, Wk.fate0, assoc, getE, Wk.hp, ABlk.sub, sub1, subs, free_I, free_Rg, S_bi2, Jbi, zPa])) ?_
    refine Cor.run (addC_good g_pairs (noC_good _)) (noHx_good _) hm ?_
    simp +contextual -implicitDefEqProofs (maxSteps := 2000000) only [S_bi2, y2, ruB, rh_no, Int.reduceLT, Int.reduceLE, Int.reduceAdd, Int.reduceSub, Int.reduceMul, Int.reduceNeg, Int.reduceToNat, Int.reduceEq, Int.reduceNe, Int.reduceTDiv, Int.reduceTMod, implies_true, putL, appN, appX, appC, Eng.Fi, reduceCtorEq, exists_eq_left', exists_eq_left, if_true, if_false, List.replicate, Nat.reduceAdd, Nat.reduceSub, Nat.reduceMul, Nat.reduceLeDiff, Nat.reduceLT, Nat.reduceEqDiff]
    refine Cor.rangeL (addC_good g_pairs (noC_good _)) (noHx_good _) hm (fun _ _ _ _ => rfl) Jbi (fun _ => 4) stb (fun _ _ => True) (x0 := (zPa, -1)) rfl (sqPairs x (srE_z h0)) rfl rfl trivial Jbi_inj ?_ rfl rfl ?_ ?_ (fun _ _ _ _ _ _ => trivial) ?_ ?_
    · intro c e he
      simp only [Jbi, List.mem_cons, List.not_mem_nil, or_false] at he
      rcases he with rfl | rfl | rfl <;> simp
    · intro v hv
      obtain ⟨p, _, rfl⟩ := List.mem_map.1 hv
      rfl
    · intro j c _
      refine ⟨by decide, fun e he => ?_⟩
      simp only [Jbi, List.mem_cons, List.not_mem_nil, or_false] at he
      rcases he with rfl | rfl | rfl <;> exact ⟨⟨by simp, by simp⟩, fun φ _ => rfl⟩
    · intro j v c hj _ oR oB f go
      obtain ⟨p, hp, rfl⟩ := List.mem_map.1 (List.mem_of_getElem? hj)
      simp only [stb, dY_e] at go ⊢
      unfold stB at go
      by_cases c1 : c.2 < 0
      · have c1' := eq_true c1
        rw [if_pos (.inl c1)] at go
        simp +contextual -implicitDefEqProofs (maxSteps := 2000000) only [Jbi, c1', sp_cons, sp_nil, goB_eq, jk_n, jk_r, jk_e, fi_nx, ruB, rh_no, Int.reduceLT, Int.reduceLE, Int.reduceAdd, Int.reduceSub, Int.reduceMul, Int.reduceNeg, Int.reduceToNat, Int.reduceEq, Int.reduceNe, Int.reduceTDiv, Int.reduceTMod, implies_true, putL, appN, appX, appC, Eng.Fi, reduceCtorEq, exists_eq_left', exists_eq_left, if_true, if_false, List.replicate, Nat.reduceAdd, Nat.reduceSub, Nat.reduceMul, Nat.reduceLeDiff, Nat.reduceLT, Nat.reduceEqDiff]
        exact go _ [.any, .any, .any, .any, .any, .any, .any, .any, .any, .any, .any, .any, .any, .any, .any, .any, .any, .any, .any, .any, .any, .any, .any, .any, .any, .any, .any, .any, .any, .any, .any] (Wkn.to ⟨4, [], [], 4, []⟩ rfl rfl (by simp [Wk.st, keepT, memN, Wk.fate, Wk.fate0, assoc, getE, Wk.hp, ABlk.sub, sub1, subs, Jbi, zPa, free_I, free_Rg]))
      · have c1' := eq_false c1
        by_cases c2 : mfV p x.su x.rd < c.2
        · have c2' := eq_true c2
          rw [if_pos (.inr c2)] at go
          simp +contextual -implicitDefEqProofs (maxSteps := 2000000) only [Jbi, c1', c2', sp_cons, sp_nil, goB_eq, jk_n, jk_r, jk_e, fi_nx, ruB, rh_no, Int.reduceLT, Int.reduceLE, Int.reduceAdd, Int.reduceSub, Int.reduceMul, Int.reduceNeg, Int.reduceToNat, Int.reduceEq, Int.reduceNe, Int.reduceTDiv, Int.reduceTMod, implies_true, putL, appN, appX, appC, Eng.Fi, reduceCtorEq, exists_eq_left', exists_eq_left, if_true, if_false, List.replicate, Nat.reduceAdd, Nat.reduceSub, Nat.reduceMul, Nat.reduceLeDiff, Nat.reduceLT, Nat.reduceEqDiff]
          exact go _ [.any, .any, .any, .any, .any, .any, .any, .any, .any, .any, .any, .any, .any, .any, .any, .any, .any, .any, .any, .any, .any, .any, .any, .any, .any, .any, .any, .any, .any, .any, .any] (Wkn.to ⟨4, [], [], 4, []⟩ rfl rfl (by simp [Wk.st, keepT, memN, Wk.fate, Wk.fate0, assoc, getE, Wk.hp, ABlk.sub, sub1, subs, Jbi, zPa, free_I, free_Rg]))
        · have c2' := eq_false c2
          rw [if_neg (fun h => h.elim c1 c2)] at go
          simp +contextual -implicitDefEqProofs (maxSteps := 2000000) only [Jbi, c1', c2', sp_cons, sp_nil, goB_eq, jk_n, jk_r, jk_e, fi_nx, ruB, rh_no, Int.reduceLT, Int.reduceLE, Int.reduceAdd, Int.reduceSub, Int.reduceMul, Int.reduceNeg, Int.reduceToNat, Int.reduceEq, Int.reduceNe, Int.reduceTDiv, Int.reduceTMod, implies_true, putL, appN, appX, appC, Eng.Fi, reduceCtorEq, exists_eq_left', exists_eq_left, if_true, if_false, List.replicate, Nat.reduceAdd, Nat.reduceSub, Nat.reduceMul, Nat.reduceLeDiff, Nat.reduceLT, Nat.reduceEqDiff]
          exact go _ [.any, .any, .any, .any, .any, .any, .any, .any, .any, .any, .any, .any, .any, .any, .any, .any, .any, .any, .any, .any, .any, .any, .any, .any, .any, .any, .any, .any, .any, .any, .any] (Wkn.to ⟨4, [], [], 4, []⟩ rfl rfl (by simp [Wk.st, keepT, memN, Wk.fate, Wk.fate0, assoc, getE, Wk.hp, ABlk.sub, sub1, subs, Jbi, zPa, free_I, free_Rg]))
    · rw [foldS_nx (st := stb) (fun _ _ => rfl)]
      have ef : ((prL x).map (eY x)).foldl (fun a v => (stb a v).1) (zPa, -1) = bsL x := by
        rw [List.foldl_map]
        simp only [stb, dY_e]
        rfl
      rw [ef]
      generalize bsL x = c
      show R P _ noHx 0 .normal _ _ _
      simp +contextual -implicitDefEqProofs (maxSteps := 2000000) only [Jbi, sp_cons, sp_nil, goB_eq, jk_n, jk_r, jk_e, fi_nx, ruB, rh_no, Int.reduceLT, Int.reduceLE, Int.reduceAdd, Int.reduceSub, Int.reduceMul, Int.reduceNeg, Int.reduceToNat, Int.reduceEq, Int.reduceNe, Int.reduceTDiv, Int.reduceTMod, implies_true, putL, appN, appX, appC, Eng.Fi, reduceCtorEq, exists_eq_left', exists_eq_left, if_true, if_false, List.replicate, Nat.reduceAdd, Nat.reduceSub, Nat.reduceMul, Nat.reduceLeDiff, Nat.reduceLT, Nat.reduceEqDiff]
  · rw [biV, if_neg h0]
    refine Cor.run (addC_good g_CheckSearch (noC_good _)) (noHx_good _) hm ?_
    simp +contextual -implicitDefEqProofs (maxSteps := 2000000) only [S_bi, y1, h0, not_false_eq_true, zPa, ruB, rh_no, Int.reduceLT, Int.reduceLE, Int.reduceAdd, Int.reduceSub, Int.reduceMul, Int.reduceNeg, Int.reduceToNat, Int.reduceEq, Int.reduceNe, Int.reduceTDiv, Int.reduceTMod, implies_true, putL, appN, appX, appC, Eng.Fi, reduceCtorEq, exists_eq_left', exists_eq_left, if_true, if_false, List.replicate, Nat.reduceAdd, Nat.reduceSub, Nat.reduceMul, Nat.reduceLeDiff, Nat.reduceLT, Nat.reduceEqDiff]
noncomputable def cf_BestIn : List AV → Option AV
  | [x_v] => onSr x_v fun x => some (biV x)
  | _ => none
theorem g_BestIn : Fn P 33 cf_BestIn := fun args v hh => by
  unfold cf_BestIn at hh; split at hh
  · obtain ⟨x, rfl, hh1⟩ := onSr_inv hh
    have hk := Option.some.inj hh1; subst hk; exact k_BestIn _
  · cases hh
theorem x_BestIn (x : Sr) : cf_BestIn [eSr x] = some (biV x) := by
  simp only [cf_BestIn, onSr_e]
end Wa
