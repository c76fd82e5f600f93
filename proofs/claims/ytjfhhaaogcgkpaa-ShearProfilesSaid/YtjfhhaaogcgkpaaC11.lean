import Derived.Test.YtjfhhaaogcgkpaaEngS9
import Derived.Test.YtjfhhaaogcgkpaaC10
open Go Go.Proofs Eng
set_option maxRecDepth 100000
set_option linter.unusedSimpArgs false
set_option linter.unusedVariables false
def a28 : AC := .seq (.ops false [] [⟨some 4, .p (.mov), [.c (.bool false)], none⟩]) (.seq (.seq (.ops false [] [⟨some 6, .p (.mov), [.t 0], none⟩, ⟨some 7, .p (.lenS), [.t 6], none⟩, ⟨some 8, .p (.mov), [.t 1], none⟩, ⟨some 9, .p (.lenS), [.t 8], none⟩, ⟨some 10, .p (.binI .neq), [.t 7, .t 9], none⟩]) (.cond (.t 10) (.seq (.ops false [] [⟨some 4, .p (.mov), [.c (.bool false)], none⟩]) (.ret)) (.skip))) (.seq (.seq (.ops false [] [⟨some 5, .p (.mov), [.c (.int .i64 0)], none⟩]) (.block 0 (.loop (.seq (.seq (.ops false [] [⟨some 11, .p (.mov), [.t 5], none⟩, ⟨some 12, .p (.mov), [.t 0], none⟩, ⟨some 13, .p (.lenS), [.t 12], none⟩, ⟨some 14, .p (.binI .lss), [.t 11, .t 13], none⟩]) (.cond (.t 14) (.skip) (.exit 0))) (.seq (.block 1 (.seq (.ops true [] [⟨some 17, .p (.mov), [.t 0], none⟩, ⟨some 18, .p (.mov), [.t 5], none⟩, ⟨some 19, .p (.iaddrS 3), [.t 17, .t 18], none⟩, ⟨some 20, .load 3 true, [.t 19], none⟩, ⟨some 21, .p (.mov), [.t 1], none⟩, ⟨some 22, .p (.mov), [.t 5], none⟩, ⟨some 23, .p (.iaddrS 3), [.t 21, .t 22], none⟩, ⟨some 24, .load 3 true, [.t 23], none⟩, ⟨some 25, .p (.eqa true [.i, .i, .i]), [.t 20, .t 24], none⟩]) (.cond (.t 25) (.seq (.ops false [] [⟨some 4, .p (.mov), [.c (.bool false)], none⟩]) (.ret)) (.skip)))) (.ops false [] [⟨some 15, .p (.mov), [.t 5], none⟩, ⟨some 16, .p (.binI .add), [.t 15, .c (.int .i64 1)], none⟩, ⟨some 5, .p (.mov), [.t 16], none⟩])))))) (.seq (.ops false [] [⟨some 4, .p (.mov), [.c (.bool true)], none⟩]) (.ret))))
theorem c28 : FnC Try.prog 28 26 a28 [.tmp 4] := ⟨Try.call28, _, _, Try.func28, rfl, by kernel_rfl, by kernel_rfl, rfl⟩
def a36 : AC := .seq (.ops false [] [⟨some 4, .box 64 2 1 true, [.t 1], none⟩, ⟨some 6, .p (.mov), [.c (.nilslice)], none⟩, ⟨some 7, .p (.mov), [.c (.int .i64 0)], none⟩]) (.seq (.ops true [] [⟨some 14, .p (.mov), [.t 0], none⟩, ⟨some 15, .call 97, [.t 14], none⟩, ⟨some 16, .p (.faddr 0), [.t 4], none⟩, ⟨some 17, .load 1 false, [.t 16], none⟩, ⟨some 18, .call 98, [.t 17], none⟩, ⟨some 19, .p (.mov), [.t 18], none⟩, ⟨some 20, .p (.faddr 1), [.t 4], some (19, true)⟩, ⟨some 21, .load 1 false, [.t 20], some (19, true)⟩, ⟨some 22, .call 98, [.t 21], some (19, true)⟩, ⟨some 23, .p (.pick), [.t 19, .t 22, .c (.bool false)], none⟩, ⟨some 24, .call 85, [.t 23, .c (.int .i64 2)], none⟩, ⟨some 25, .p (.faddr 0), [.t 4], none⟩, ⟨some 26, .load 1 false, [.t 25], none⟩, ⟨some 27, .p (.faddr 1), [.t 4], none⟩, ⟨some 28, .load 1 false, [.t 27], none⟩, ⟨some 29, .p (.binI .leq), [.t 26, .t 28], none⟩, ⟨some 30, .call 85, [.t 29, .c (.int .i64 9)], none⟩, ⟨some 31, .p (.mov), [.t 2], none⟩, ⟨some 32, .call 98, [.t 31], none⟩, ⟨some 33, .call 85, [.t 32, .c (.int .i64 2)], none⟩, ⟨some 34, .fbs 1, [.t 15, .t 24, .t 30, .t 33], none⟩, ⟨some 35, .call 84, [.t 34], none⟩, ⟨some 8, .p (.mov), [.t 35], none⟩]) (.seq (.seq (.ops false [] [⟨some 36, .p (.mov), [.t 8], none⟩, ⟨some 37, .p (.binI .neq), [.t 36, .c (.int .i64 0)], none⟩]) (.cond (.t 37) (.seq (.ops false [] [⟨some 38, .p (.mov), [.t 8], none⟩, ⟨some 6, .p (.mov), [.c (.nilslice)], none⟩, ⟨some 7, .p (.mov), [.t 38], none⟩]) (.ret)) (.skip))) (.seq (.ops false [] [⟨some 9, .alloc 76 1 [.nilslice], [], none⟩]) (.seq (.ops false [] [⟨some 39, .p (.faddr 0), [.t 4], none⟩, ⟨some 40, .load 1 false, [.t 39], none⟩, ⟨some 10, .alloc 3 1 [.int .i64 0], [], none⟩, ⟨none, .store 1 false, [.t 10, .t 40], none⟩]) (.seq (.ops false [] [⟨some 41, .p (.mkfn 99 0), [.t 10, .t 9], none⟩, ⟨some 11, .p (.mov), [.t 41], none⟩]) (.seq (.seq (.ops false [] [⟨some 42, .p (.mov), [.t 0], none⟩, ⟨some 43, .p (.lenS), [.t 42], none⟩, ⟨some 44, .p (.mov), [.c (.int .i64 0)], none⟩]) (.block 0 (.loop (.seq (.ops false [] [⟨some 45, .p (.binI .lss), [.t 44, .t 43], none⟩]) (.seq (.cond (.t 45) (.skip) (.exit 0)) (.seq (.block 1 (.seq (.ops false [] [⟨some 46, .p (.iaddrS 3), [.t 42, .t 44], none⟩, ⟨some 47, .load 3 true, [.t 46], none⟩, ⟨some 13, .alloc 117 3 [.agg [.int .i64 0, .int .i64 0, .int .i64 0]], [], none⟩, ⟨none, .store 3 true, [.t 13, .t 47], none⟩]) (.seq (.ops false [] [⟨some 48, .p (.mov), [.t 11], none⟩, ⟨some 49, .p (.faddr 1), [.t 4], none⟩, ⟨some 50, .load 1 false, [.t 49], none⟩, ⟨some 51, .p (.faddr 0), [.t 13], none⟩, ⟨some 52, .load 1 false, [.t 51], none⟩, ⟨some 53, .p (.mov), [.t 2], none⟩, ⟨some 54, .p (.binI .sub), [.t 52, .t 53], none⟩, ⟨some 55, .p (.binI .sub), [.t 54, .c (.int .i64 1)], none⟩, ⟨some 56, .p (.mm false), [.t 50, .t 55], none⟩, ⟨some 57, .callv, [.t 48, .t 56], none⟩]) (.ops false [] [⟨some 58, .load 1 false, [.t 10], none⟩, ⟨some 59, .p (.faddr 0), [.t 13], none⟩, ⟨some 60, .load 1 false, [.t 59], none⟩, ⟨some 61, .p (.mov), [.t 2], none⟩, ⟨some 62, .p (.binI .add), [.t 60, .t 61], none⟩, ⟨some 63, .p (.binI .add), [.t 62, .c (.int .i64 1)], none⟩, ⟨some 64, .p (.mm true), [.t 58, .t 63], none⟩, ⟨none, .store 1 false, [.t 10, .t 64], none⟩])))) (.ops false [] [⟨some 65, .p (.binI .add), [.t 44, .c (.int .i64 1)], none⟩, ⟨some 44, .p (.mov), [.t 65], none⟩]))))))) (.seq (.ops false [] [⟨some 66, .p (.mov), [.t 11], none⟩, ⟨some 67, .p (.faddr 1), [.t 4], none⟩, ⟨some 68, .load 1 false, [.t 67], none⟩, ⟨some 69, .callv, [.t 66, .t 68], none⟩]) (.seq (.ops false [] [⟨some 70, .load 1 false, [.t 9], none⟩, ⟨some 6, .p (.mov), [.t 70], none⟩, ⟨some 7, .p (.mov), [.c (.int .i64 0)], none⟩]) (.ret)))))))))
theorem c36 : FnC Try.prog 36 71 a36 [.tmp 6, .tmp 7] := ⟨Try.call36, _, _, Try.func36, rfl, by kernel_rfl, by kernel_rfl, rfl⟩
def a43 : AC := .seq (.ops false [] [⟨some 4, .p (.mov), [.c (.bool false)], none⟩]) (.seq (.seq (.ops false [] [⟨some 6, .p (.mov), [.t 0], none⟩, ⟨some 7, .p (.lenS), [.t 6], none⟩, ⟨some 8, .p (.mov), [.t 1], none⟩, ⟨some 9, .p (.lenS), [.t 8], none⟩, ⟨some 10, .p (.binI .neq), [.t 7, .t 9], none⟩]) (.cond (.t 10) (.seq (.ops false [] [⟨some 4, .p (.mov), [.c (.bool false)], none⟩]) (.ret)) (.skip))) (.seq (.seq (.ops false [] [⟨some 5, .p (.mov), [.c (.int .i64 0)], none⟩]) (.block 0 (.loop (.seq (.seq (.ops false [] [⟨some 11, .p (.mov), [.t 5], none⟩, ⟨some 12, .p (.mov), [.t 0], none⟩, ⟨some 13, .p (.lenS), [.t 12], none⟩, ⟨some 14, .p (.binI .lss), [.t 11, .t 13], none⟩]) (.cond (.t 14) (.skip) (.exit 0))) (.seq (.block 1 (.seq (.ops true [] [⟨some 17, .p (.mov), [.t 0], none⟩, ⟨some 18, .p (.mov), [.t 5], none⟩, ⟨some 19, .p (.iaddrS 2), [.t 17, .t 18], none⟩, ⟨some 20, .load 2 true, [.t 19], none⟩, ⟨some 21, .p (.mov), [.t 1], none⟩, ⟨some 22, .p (.mov), [.t 5], none⟩, ⟨some 23, .p (.iaddrS 2), [.t 21, .t 22], none⟩, ⟨some 24, .load 2 true, [.t 23], none⟩, ⟨some 25, .p (.eqa true [.i, .i]), [.t 20, .t 24], none⟩]) (.cond (.t 25) (.seq (.ops false [] [⟨some 4, .p (.mov), [.c (.bool false)], none⟩]) (.ret)) (.skip)))) (.ops false [] [⟨some 15, .p (.mov), [.t 5], none⟩, ⟨some 16, .p (.binI .add), [.t 15, .c (.int .i64 1)], none⟩, ⟨some 5, .p (.mov), [.t 16], none⟩])))))) (.seq (.ops false [] [⟨some 4, .p (.mov), [.c (.bool true)], none⟩]) (.ret))))
theorem c43 : FnC Try.prog 43 26 a43 [.tmp 4] := ⟨Try.call43, _, _, Try.func43, rfl, by kernel_rfl, by kernel_rfl, rfl⟩
def a99 : AC := .seq (.ops false [] [⟨some 4, .load 1 false, [.t 1], none⟩, ⟨some 5, .p (.mov), [.t 0], none⟩, ⟨some 6, .p (.binI .leq), [.t 4, .t 5], none⟩]) (.cond (.t 6) (.ops false [] [⟨some 7, .load 1 false, [.t 2], none⟩, ⟨some 8, .load 1 false, [.t 1], none⟩, ⟨some 9, .p (.mov), [.t 0], none⟩, ⟨some 10, .p (.build [.int .i64 0, .int .i64 0] [(0, 1), (1, 1)]), [.t 8, .t 9], none⟩, ⟨some 11, .fbs 2, [.t 10], none⟩, ⟨some 12, .app 64 2 16, [.t 7, .t 11], none⟩, ⟨none, .store 1 false, [.t 2, .t 12], none⟩]) (.skip))
theorem c99 : FnC Try.prog 99 13 a99 [] := ⟨Try.call99, _, _, Try.func99, rfl, by kernel_rfl, by kernel_rfl, rfl⟩
namespace Sh

/-! ranges -/
@[ext] structure Rg where
  lo : Int
  hi : Int
  deriving DecidableEq
abbrev eN (r : Rg) : AV := .agg [I r.lo, I r.hi]
theorem free_N (φ : Nat → Fate) (l : List Rg) : subs φ (l.map eN) = l.map eN := subs_mapE φ _ (fun _ => rfl) l

/-! the closure of BlindIn -/
def ouv : List Rg → AV
  | [] => .nilslice
  | r :: l => .slice 3 2 0 (l.length + 1)
def ouh : List Rg → List HEnt → List HEnt
  | [], h => h
  | r :: l, h => ⟨3, 3, .rows 64 2 ((r :: l).map eN)⟩ :: h
def ouv6 : List Rg → AV
  | [] => .nilslice
  | r :: l => .slice 6 2 0 (l.length + 1)
theorem k99f (fr to : Int) (o : List Rg) (h : ¬ fr ≤ to) : LOk P 99 [I to, .ptr 2 1 0 0, .ptr 1 1 0 0] (ouh o [⟨2, 2, .rows 3 1 [I fr]⟩, ⟨1, 1, .rows 76 1 [ouv o]⟩]) 6 (.tup []) (ouh o [⟨2, 2, .rows 3 1 [I fr]⟩, ⟨1, 1, .rows 76 1 [ouv o]⟩]) 6 := by
  refine c99.lok (Cor.post (Cor.run (noC_good _) (noHx_good _) hm ?_))
  cases o with
  | nil =>
    simp +contextual -implicitDefEqProofs (maxSteps := 2000000) only [bg_eq, a99, FinL, mx, h, ouv, ouh, ruH, ruB, Int.reduceLT, Int.reduceLE, Int.reduceAdd, Int.reduceSub, Int.reduceMul, Int.reduceNeg, Int.reduceToNat, Int.reduceEq, Int.reduceNe, Int.reduceTDiv, Int.reduceTMod, implies_true, putL, appN, appX, appC, Eng.Fi, reduceCtorEq, exists_eq_left', exists_eq_left, if_true, if_false, List.replicate, Nat.reduceAdd, Nat.reduceSub, Nat.reduceMul, Nat.reduceLeDiff, Nat.reduceLT, Nat.reduceEqDiff]
    exact ⟨_, Wkn.rfl, _, rfl, rfl, rfl, rfl⟩
  | cons r l =>
    simp +contextual -implicitDefEqProofs (maxSteps := 2000000) only [bg_eq, a99, FinL, mx, h, ouv, ouh, ruH, ruB, Int.reduceLT, Int.reduceLE, Int.reduceAdd, Int.reduceSub, Int.reduceMul, Int.reduceNeg, Int.reduceToNat, Int.reduceEq, Int.reduceNe, Int.reduceTDiv, Int.reduceTMod, implies_true, putL, appN, appX, appC, Eng.Fi, reduceCtorEq, exists_eq_left', exists_eq_left, if_true, if_false, List.replicate, Nat.reduceAdd, Nat.reduceSub, Nat.reduceMul, Nat.reduceLeDiff, Nat.reduceLT, Nat.reduceEqDiff]
    exact ⟨_, Wkn.rfl, _, rfl, rfl, rfl, rfl⟩
theorem k99n (fr to : Int) (h : fr ≤ to) : LOk P 99 [I to, .ptr 2 1 0 0, .ptr 1 1 0 0] [⟨2, 2, .rows 3 1 [I fr]⟩, ⟨1, 1, .rows 76 1 [.nilslice]⟩] 6 (.tup []) [⟨6, 6, .rows 64 2 [eN ⟨fr, to⟩]⟩, ⟨2, 2, .rows 3 1 [I fr]⟩, ⟨1, 1, .rows 76 1 [.slice 6 2 0 1]⟩] 7 := by
  refine c99.lok (Cor.post (Cor.run (noC_good _) (noHx_good _) hm ?_))
  simp +contextual -implicitDefEqProofs (maxSteps := 2000000) only [bg_eq, a99, FinL, mx, h, rs_nil, rs_t, rs_f, ag_nils, ag_sl, ag_vs, ag_str, ag_ptr, ag_nilp, ag_vp, ag_fun, ruH, ruB, Int.reduceLT, Int.reduceLE, Int.reduceAdd, Int.reduceSub, Int.reduceMul, Int.reduceNeg, Int.reduceToNat, Int.reduceEq, Int.reduceNe, Int.reduceTDiv, Int.reduceTMod, implies_true, putL, appN, appX, appC, Eng.Fi, reduceCtorEq, exists_eq_left', exists_eq_left, if_true, if_false, List.replicate, Nat.reduceAdd, Nat.reduceSub, Nat.reduceMul, Nat.reduceLeDiff, Nat.reduceLT, Nat.reduceEqDiff]
  exact ⟨_, Wkn.to ⟨6, [(6, 6)], [], 7, []⟩ rfl rfl rfl, _, rfl, rfl, rfl, rfl⟩
theorem k99c (fr to : Int) (r : Rg) (l : List Rg) (h : fr ≤ to) (hl : l.length ≤ 1000) : LOk P 99 [I to, .ptr 2 1 0 0, .ptr 1 1 0 0] [⟨3, 3, .rows 64 2 ((r :: l).map eN)⟩, ⟨2, 2, .rows 3 1 [I fr]⟩, ⟨1, 1, .rows 76 1 [.slice 3 2 0 (l.length + 1)]⟩] 6 (.tup []) [⟨6, 3, .rows 64 2 ((r :: l).map eN ++ [eN ⟨fr, to⟩])⟩, ⟨3, 3, .rows 64 2 ((r :: l).map eN)⟩, ⟨2, 2, .rows 3 1 [I fr]⟩, ⟨1, 1, .rows 76 1 [.slice 6 2 0 (l.length + 1 + 1)]⟩] 7 := by
  have m1 : (l.length + 1 + 1 ≤ maxLen) = True := by simp only [eq_iff_iff, iff_true]; exact Nat.le_trans (by omega : l.length + 1 + 1 ≤ 2000) (by decide)
  have m2 : ((l.length + 1 + 1) * 16 ≤ 140737488355328) = True := by simp only [eq_iff_iff, iff_true]; omega
  refine c99.lok (Cor.post (Cor.run (noC_good _) (noHx_good _) hm ?_))
  simp +contextual -implicitDefEqProofs (maxSteps := 2000000) only [bg_eq, a99, FinL, h, rs_nil, rs_t, rs_f, ag_nils, ag_sl, ag_vs, ag_str, ag_ptr, ag_nilp, ag_vp, ag_fun, m1, m2, List.length_map, List.map_cons, ruH, ruB, Int.reduceLT, Int.reduceLE, Int.reduceAdd, Int.reduceSub, Int.reduceMul, Int.reduceNeg, Int.reduceToNat, Int.reduceEq, Int.reduceNe, Int.reduceTDiv, Int.reduceTMod, implies_true, putL, appN, appX, appC, Eng.Fi, reduceCtorEq, exists_eq_left', exists_eq_left, if_true, if_false, List.replicate, Nat.reduceAdd, Nat.reduceSub, Nat.reduceMul, Nat.reduceLeDiff, Nat.reduceLT, Nat.reduceEqDiff]
  exact ⟨_, (Wkn.to ⟨6, [(6, 6)], [], 7, []⟩ rfl rfl (by simp only [Wk.st, keepT, sub1, subs, Wk.hp, ABlk.sub, free_N, subs_app]; try rfl)), _, rfl, rfl, rfl, rfl⟩
def dN : AV → Option Rg
  | .agg [.int .i64 a, .int .i64 b] => some ⟨a, b⟩
  | _ => none
theorem dN_e (g : Rg) : dN (eN g) = some g := rfl
theorem dN_inv (v : AV) (g : Rg) (h : dN v = some g) : v = eN g := by
  unfold dN at h
  split at h
  · cases h; rfl
  · cases h
def core (fr : Int) (o : List Rg) : List HEnt := ouh o [⟨2, 2, .rows 3 1 [I fr]⟩, ⟨1, 1, .rows 76 1 [ouv o]⟩]
def r99 (fr to : Int) : List Rg → List HEnt
  | [] => [⟨6, 6, .rows 64 2 [eN ⟨fr, to⟩]⟩, ⟨2, 2, .rows 3 1 [I fr]⟩, ⟨1, 1, .rows 76 1 [.slice 6 2 0 1]⟩]
  | r :: l => [⟨6, 3, .rows 64 2 ((r :: l).map eN ++ [eN ⟨fr, to⟩])⟩, ⟨3, 3, .rows 64 2 ((r :: l).map eN)⟩, ⟨2, 2, .rows 3 1 [I fr]⟩, ⟨1, 1, .rows 76 1 [.slice 6 2 0 (l.length + 1 + 1)]⟩]
def dO (w : AV) : Option HEnt → Option (List Rg)
  | none => match w with
    | .nilslice => some []
    | _ => none
  | some ⟨3, 3, .rows 64 2 vals⟩ => match w, decL dN vals with
    | .slice 3 2 0 n, some (r :: l) => if n = l.length + 1 ∧ l.length ≤ 1000 then some (r :: l) else none
    | _, _ => none
  | _ => none
theorem dO_inv {w : AV} {e : Option HEnt} {o : List Rg} (h : dO w e = some o) : w = ouv o ∧ o.length ≤ 1001 ∧ (∀ e' ∈ ouh o [], e = some e') := by
  unfold dO at h
  split at h
  · split at h
    · cases h; exact ⟨rfl, by simp, by simp [ouh]⟩
    · cases h
  · split at h
    · rename_i hd
      split at h
      · rename_i hc
        cases h
        refine ⟨by rw [hc.1]; rfl, by simp; omega, fun e' he => ?_⟩
        have := decL_inv dN eN dN_inv hd
        simp only [ouh, List.mem_singleton] at he
        rw [he, this]
      · cases h
    · cases h
  · cases h
def c99k (to fr : Int) (H : List HEnt) (nx : Nat) : Option (List Rg) → Option (AV × List HEnt × Nat)
  | some o => if nx ≤ 6 then (if fr ≤ to then some (.tup [], r99 fr to o ++ restG [1, 2, 3] H, 7) else some (.tup [], core fr o ++ restG [1, 2, 3] H, 6)) else none
  | none => none
def c99j (to : Int) (H : List HEnt) (nx : Nat) : Option HEnt → Option HEnt → Option HEnt → Option (AV × List HEnt × Nat)
  | some ⟨2, 2, .rows 3 1 [.int .i64 fr]⟩, some ⟨1, 1, .rows 76 1 [w]⟩, e3 => c99k to fr H nx (dO w e3)
  | _, _, _ => none
def c99h : List AV → List HEnt → Nat → Option (AV × List HEnt × Nat)
  | [.int .i64 to, .ptr 2 1 0 0, .ptr 1 1 0 0], H, nx => c99j to H nx (getE H 2) (getE H 1) (getE H 3)
  | _, _, _ => none
theorem h99 : Hn P 99 c99h := fun args H nx v hp' nx' h => by
  unfold c99h at h; split at h
  · rename_i to
    unfold c99j at h
    split at h
    · rename_i fr w h2 h1
      unfold c99k at h
      split at h
      · rename_i o ho
        split at h
        · rename_i hnx
          obtain ⟨rfl, hlen, h3⟩ := dO_inv ho
          have hcore : ∀ e ∈ core fr o, e ∈ H ∧ memN [1, 2, 3] e.grp = true := by
            intro e he
            have he' : e ∈ ouh o [] ∨ e = ⟨2, 2, .rows 3 1 [I fr]⟩ ∨ e = ⟨1, 1, .rows 76 1 [ouv o]⟩ := by
              cases o <;> simpa [core, ouh, or_assoc] using he
            rcases he' with he | rfl | rfl
            · have := h3 e he
              refine ⟨(getE_mem this).1, ?_⟩
              cases o with
              | nil => simp [ouh] at he
              | cons r l => simp only [ouh, List.mem_singleton] at he; rw [he]; rfl
            · exact ⟨(getE_mem h2).1, rfl⟩
            · exact ⟨(getE_mem h1).1, rfl⟩
          split at h
          · rename_i hle
            simp only [Option.some.injEq, Prod.mk.injEq] at h
            obtain ⟨rfl, rfl, rfl⟩ := h
            cases o with
            | nil => exact LOk.at (k99n fr to hle) [1, 2, 3] H hcore hnx (by decide)
            | cons r l => exact LOk.at (k99c fr to r l hle (by simp at hlen; omega)) [1, 2, 3] H hcore hnx (by decide)
          · rename_i hle
            simp only [Option.some.injEq, Prod.mk.injEq] at h
            obtain ⟨rfl, rfl, rfl⟩ := h
            exact LOk.at (k99f fr to o hle) [1, 2, 3] H hcore hnx (by decide)
        · cases h
      · cases h
    · cases h
  · cases h
theorem y99 (to : Int) (H : List HEnt) (nx : Nat) : c99h [.int .i64 to, .ptr 2 1 0 0, .ptr 1 1 0 0] H nx = c99j to H nx (getE H 2) (getE H 1) (getE H 3) := rfl
theorem y99n (to fr : Int) (H : List HEnt) (nx : Nat) (h : (nx ≤ 6) = True) : c99j to H nx (some ⟨2, 2, .rows 3 1 [.int .i64 fr]⟩) (some ⟨1, 1, .rows 76 1 [.nilslice]⟩) none = if fr ≤ to then some (.tup [], r99 fr to [] ++ restG [1, 2, 3] H, 7) else some (.tup [], core fr [] ++ restG [1, 2, 3] H, 6) := by
  simp only [c99j, dO, c99k, h, if_true]
theorem y99c (to fr : Int) (H : List HEnt) (nx : Nat) (r : Rg) (l : List Rg) (h : (nx ≤ 6) = True) (hl : (l.length ≤ 1000) = True) : c99j to H nx (some ⟨2, 2, .rows 3 1 [.int .i64 fr]⟩) (some ⟨1, 1, .rows 76 1 [.slice 3 2 0 (l.length + 1)]⟩) (some ⟨3, 3, .rows 64 2 (eN r :: l.map eN)⟩) = if fr ≤ to then some (.tup [], r99 fr to (r :: l) ++ restG [1, 2, 3] H, 7) else some (.tup [], core fr (r :: l) ++ restG [1, 2, 3] H, 6) := by
  have hd : decL dN (eN r :: l.map eN) = some (r :: l) := decL_map dN eN dN_e (r :: l)
  simp only [c99j, dO, hd, c99k, h, hl, if_true, and_self]

/-! BlindIn -/
def addB (fr to : Int) (o : List Rg) : List Rg := if fr ≤ to then o ++ [⟨fr, to⟩] else o
def stB (hi gap : Int) (p : Int × List Rg) (g : Gt) : Int × List Rg := (max p.1 (g.at' + gap + 1), addB p.1 (min hi (g.at' - gap - 1)) p.2)
def blE (l : List Gt) (lo hi gap : Int) : Int := firstE [(chkP l).2, unl ((0 ≤ lo ∧ lo ≤ 50000) ∧ (0 ≤ hi ∧ hi ≤ 50000)) 2, unl (lo ≤ hi) 9, unl (0 ≤ gap ∧ gap ≤ 50000) 2]
def blindL (l : List Gt) (lo hi gap : Int) : List Rg × Int :=
  if blE l lo hi gap = 0 then (addB (l.foldl (stB hi gap) (lo, [])).1 hi (l.foldl (stB hi gap) (lo, [])).2, 0) else ([], blE l lo hi gap)
def S36 (l : List Gt) (lo hi gap : Int) (p : Nat × Int × List Rg) : AState := ⟨[.any, .any, I gap, .any, .ptr 0 2 0 0, .any, .any, .any, .any, .ptr 1 1 0 0, .ptr 2 1 0 0, .fn 99 [] [.ptr 2 1 0 0, .ptr 1 1 0 0], .any, .any, .any, .any, .any, .any, .any, .any, .any, .any, .any, .any, .any, .any, .any, .any, .any, .any, .any, .any, .any, .any, .any, .any, .any, .any, .any, .any, .any, .any, .vs (l.map eG), I l.length, I p.1, .any, .any, .any, .any, .any, .any, .any, .any, .any, .any, .any, .any, .any, .any, .any, .any, .any, .any, .any, .any, .any, .any, .any, .any, .any, .any], ouh p.2.2 [⟨2, 2, .rows 3 1 [I p.2.1]⟩, ⟨1, 1, .rows 76 1 [ouv p.2.2]⟩, ⟨0, 0, .rows 64 2 [.agg [I lo, I hi]]⟩], 4⟩
theorem k36 (l : List Gt) (lo hi gap : Int) (hl : l.length ≤ 1099511627776) : FOk P 36 [.vs (l.map eG), .agg [I lo, I hi], I gap] (.tup [.vs ((blindL l lo hi gap).1.map eN), I (blindL l lo hi gap).2]) := by
  have h' : (l.length ≤ 1099511627776) = True := by simp [hl]
  refine c36.fok (by simp only [subs, sub1, free_G]) (Cor.run (addC_good g84 (addC_good g85 (addC_good g98 (addC_good g97 (noC_good _))))) (addH_good h99 (noHx_good _)) hm ?_) (fun G => YH_add (by decide) (YH_no _ _))
  by_cases h0 : firstE [(chkP l).2, unl ((0 ≤ lo ∧ lo ≤ 50000) ∧ (0 ≤ hi ∧ hi ≤ 50000)) 2, unl (lo ≤ hi) 9, unl (0 ≤ gap ∧ gap ≤ 50000) 2] = 0
  · have hres : blindL l lo hi gap = (addB (l.foldl (stB hi gap) (lo, [])).1 hi (l.foldl (stB hi gap) (lo, [])).2, 0) := by simp only [blindL, blE, h0, if_true]
    have hz := firstE_zero h0
    have hz1 := hz _ (by simp : (chkP l).2 ∈ _)
    have hz2 := unl_zero (hz (unl ((0 ≤ lo ∧ lo ≤ 50000) ∧ (0 ≤ hi ∧ hi ≤ 50000)) 2) (by simp)) (by decide)
    have hz3 := unl_zero (hz (unl (0 ≤ gap ∧ gap ≤ 50000) 2) (by simp)) (by decide)
    have hg := chkP_sG hz1
    have hlen := (chkP_zero hz1).1
    simp +contextual -implicitDefEqProofs (maxSteps := 2000000) only [bg_eq, a36, x97, x98, x85, x84, r84s, Lmax, h', h0, List.length_map, ruH, ruB, Int.reduceLT, Int.reduceLE, Int.reduceAdd, Int.reduceSub, Int.reduceMul, Int.reduceNeg, Int.reduceToNat, Int.reduceEq, Int.reduceNe, Int.reduceTDiv, Int.reduceTMod, implies_true, putL, appN, appX, appC, Eng.Fi, reduceCtorEq, exists_eq_left', exists_eq_left, if_true, if_false, List.replicate, Nat.reduceAdd, Nat.reduceSub, Nat.reduceMul, Nat.reduceLeDiff, Nat.reduceLT, Nat.reduceEqDiff]
    rw [hres]
    refine Cor.lp (addC_good g84 (addC_good g85 (addC_good g98 (addC_good g97 (noC_good _))))) (addH_good h99 (noHx_good _)) hm (S36 l lo hi gap) (fun p => p.1 ≤ l.length ∧ l.foldl (stB hi gap) (lo, []) = (l.drop p.1).foldl (stB hi gap) p.2 ∧ p.2.2.length ≤ p.1 ∧ (-2000000 ≤ p.2.1 ∧ p.2.1 ≤ 2000000)) (fun p => l.length - p.1) (a := (0, lo, [])) ⟨Nat.zero_le _, by simp, by simp, by simp only; omega⟩ (Wkn.keep [2, 4, 9, 10, 11, 42, 43, 44] rfl) ?_
    rintro f ⟨n, fr, o⟩ ⟨hn, hf, ho, hfr⟩ go
    simp only at hn hf ho hfr
    rcases Nat.lt_or_ge n l.length with h | h
    · have e1 : decide ((n : Int) < (l.length : Int)) = true := by simp; omega
      have e2 : (l.map eG)[n]? = some (eG l[n]) := by simp [h]
      have e3 : IntKind.wrap .i64 ((n : Int) + 1) = ((n + 1 : Nat) : Int) := by rw [wrap64 (by omega) (by omega)]; rfl
      have e4 : l.drop n = l[n] :: l.drop (n + 1) := List.drop_eq_getElem_cons h
      have hs := hg l[n] (by simp)
      generalize l[n] = g at *
      unfold sG at hs
      have w1 : IntKind.wrap .i64 (g.at' - gap) = g.at' - gap := wrap64 (by omega) (by omega)
      have w2 : IntKind.wrap .i64 (g.at' - gap - 1) = g.at' - gap - 1 := wrap64 (by omega) (by omega)
      have w3 : IntKind.wrap .i64 (g.at' + gap) = g.at' + gap := wrap64 (by omega) (by omega)
      have w4 : IntKind.wrap .i64 (g.at' + gap + 1) = g.at' + gap + 1 := wrap64 (by omega) (by omega)
      rw [e4, List.foldl_cons] at hf
      cases o with
      | nil =>
        by_cases hle : fr ≤ min hi (g.at' - gap - 1)
        · simp +contextual -implicitDefEqProofs (maxSteps := 2000000) only [S36, e1, e2, e3, w1, w2, w3, w4, y99, y99n, hle, ouv, ouh, r99, rs_nil, rs_t, rs_f, ag_nils, ag_sl, ag_vs, ag_str, ag_ptr, ag_nilp, ag_vp, ag_fun, ruH, ruB, Int.reduceLT, Int.reduceLE, Int.reduceAdd, Int.reduceSub, Int.reduceMul, Int.reduceNeg, Int.reduceToNat, Int.reduceEq, Int.reduceNe, Int.reduceTDiv, Int.reduceTMod, implies_true, putL, appN, appX, appC, Eng.Fi, reduceCtorEq, exists_eq_left', exists_eq_left, if_true, if_false, List.replicate, Nat.reduceAdd, Nat.reduceSub, Nat.reduceMul, Nat.reduceLeDiff, Nat.reduceLT, Nat.reduceEqDiff]
          exact go _ (n + 1, max fr (g.at' + gap + 1), [⟨fr, min hi (g.at' - gap - 1)⟩]) ⟨h, by rw [hf]; simp only [stB, addB, hle, if_true, if_false, List.nil_append, List.cons_append], by simp only [List.length_cons, List.length_append, List.length_nil] at *; omega, by simp only; omega⟩ (by simp only; omega) (Wkn.to ⟨0, [(0, 0), (1, 1), (2, 2), (6, 3)], [], 4, [2, 4, 9, 10, 11, 42, 43, 44]⟩ rfl rfl (by simp only [Wk.st, keepT, sub1, subs, Wk.hp, ABlk.sub, free_G, free_N, subs_app, S36, ouv, ouh, List.map_append, List.map_cons, List.map_nil, List.length_append, List.length_cons, List.length_nil, List.cons_append, List.nil_append]; try rfl))
        · simp +contextual -implicitDefEqProofs (maxSteps := 2000000) only [S36, e1, e2, e3, w1, w2, w3, w4, y99, y99n, hle, ouv, ouh, core, rs_nil, rs_t, rs_f, ag_nils, ag_sl, ag_vs, ag_str, ag_ptr, ag_nilp, ag_vp, ag_fun, ruH, ruB, Int.reduceLT, Int.reduceLE, Int.reduceAdd, Int.reduceSub, Int.reduceMul, Int.reduceNeg, Int.reduceToNat, Int.reduceEq, Int.reduceNe, Int.reduceTDiv, Int.reduceTMod, implies_true, putL, appN, appX, appC, Eng.Fi, reduceCtorEq, exists_eq_left', exists_eq_left, if_true, if_false, List.replicate, Nat.reduceAdd, Nat.reduceSub, Nat.reduceMul, Nat.reduceLeDiff, Nat.reduceLT, Nat.reduceEqDiff]
          exact go _ (n + 1, max fr (g.at' + gap + 1), []) ⟨h, by rw [hf]; simp only [stB, addB, hle, if_true, if_false, List.nil_append, List.cons_append], by simp only [List.length_cons, List.length_append, List.length_nil] at *; omega, by simp only; omega⟩ (by simp only; omega) (Wkn.to ⟨0, [(0, 0), (1, 1), (2, 2)], [], 4, [2, 4, 9, 10, 11, 42, 43, 44]⟩ rfl rfl (by simp only [Wk.st, keepT, sub1, subs, Wk.hp, ABlk.sub, free_G, free_N, subs_app, S36, ouv, ouh, List.map_append, List.map_cons, List.map_nil, List.length_append, List.length_cons, List.length_nil, List.cons_append, List.nil_append]; try rfl))
      | cons r o =>
        have ho2 : (o.length ≤ 1000) = True := by simp only [List.length_cons] at ho; simp only [eq_iff_iff, iff_true]; omega
        by_cases hle : fr ≤ min hi (g.at' - gap - 1)
        · simp +contextual -implicitDefEqProofs (maxSteps := 2000000) only [S36, e1, e2, e3, w1, w2, w3, w4, y99, y99c, ho2, hle, ouv, ouh, r99, rs_nil, rs_t, rs_f, ag_nils, ag_sl, ag_vs, ag_str, ag_ptr, ag_nilp, ag_vp, ag_fun, List.map_cons, ruH, ruB, Int.reduceLT, Int.reduceLE, Int.reduceAdd, Int.reduceSub, Int.reduceMul, Int.reduceNeg, Int.reduceToNat, Int.reduceEq, Int.reduceNe, Int.reduceTDiv, Int.reduceTMod, implies_true, putL, appN, appX, appC, Eng.Fi, reduceCtorEq, exists_eq_left', exists_eq_left, if_true, if_false, List.replicate, Nat.reduceAdd, Nat.reduceSub, Nat.reduceMul, Nat.reduceLeDiff, Nat.reduceLT, Nat.reduceEqDiff]
          exact go _ (n + 1, max fr (g.at' + gap + 1), r :: (o ++ [⟨fr, min hi (g.at' - gap - 1)⟩])) ⟨h, by rw [hf]; simp only [stB, addB, hle, if_true, if_false, List.nil_append, List.cons_append], by simp only [List.length_cons, List.length_append, List.length_nil] at *; omega, by simp only; omega⟩ (by simp only; omega) (Wkn.to ⟨0, [(0, 0), (1, 1), (2, 2), (6, 3)], [], 4, [2, 4, 9, 10, 11, 42, 43, 44]⟩ rfl rfl (by simp only [Wk.st, keepT, sub1, subs, Wk.hp, ABlk.sub, free_G, free_N, subs_app, S36, ouv, ouh, List.map_append, List.map_cons, List.map_nil, List.length_append, List.length_cons, List.length_nil, List.cons_append, List.nil_append]; try rfl))
        · simp +contextual -implicitDefEqProofs (maxSteps := 2000000) only [S36, e1, e2, e3, w1, w2, w3, w4, y99, y99c, ho2, hle, ouv, ouh, core, rs_nil, rs_t, rs_f, ag_nils, ag_sl, ag_vs, ag_str, ag_ptr, ag_nilp, ag_vp, ag_fun, List.map_cons, ruH, ruB, Int.reduceLT, Int.reduceLE, Int.reduceAdd, Int.reduceSub, Int.reduceMul, Int.reduceNeg, Int.reduceToNat, Int.reduceEq, Int.reduceNe, Int.reduceTDiv, Int.reduceTMod, implies_true, putL, appN, appX, appC, Eng.Fi, reduceCtorEq, exists_eq_left', exists_eq_left, if_true, if_false, List.replicate, Nat.reduceAdd, Nat.reduceSub, Nat.reduceMul, Nat.reduceLeDiff, Nat.reduceLT, Nat.reduceEqDiff]
          exact go _ (n + 1, max fr (g.at' + gap + 1), r :: o) ⟨h, by rw [hf]; simp only [stB, addB, hle, if_true, if_false, List.nil_append, List.cons_append], by simp only [List.length_cons, List.length_append, List.length_nil] at *; omega, by simp only; omega⟩ (by simp only; omega) (Wkn.to ⟨0, [(0, 0), (1, 1), (2, 2), (3, 3)], [], 4, [2, 4, 9, 10, 11, 42, 43, 44]⟩ rfl rfl (by simp only [Wk.st, keepT, sub1, subs, Wk.hp, ABlk.sub, free_G, free_N, subs_app, S36, ouv, ouh, List.map_append, List.map_cons, List.map_nil, List.length_append, List.length_cons, List.length_nil, List.cons_append, List.nil_append]; try rfl))
    · have e1 : decide ((n : Int) < (l.length : Int)) = false := by simp; omega
      rw [List.drop_eq_nil_of_le h, List.foldl_nil] at hf
      rw [hf]
      cases o with
      | nil =>
        by_cases hle : fr ≤ hi
        · simp +contextual -implicitDefEqProofs (maxSteps := 2000000) only [S36, e1, y99, y99n, hle, ouv, ouh, r99, rs_nil, rs_t, rs_f, ag_nils, ag_sl, ag_vs, ag_str, ag_ptr, ag_nilp, ag_vp, ag_fun, addB, ruH, ruB, Int.reduceLT, Int.reduceLE, Int.reduceAdd, Int.reduceSub, Int.reduceMul, Int.reduceNeg, Int.reduceToNat, Int.reduceEq, Int.reduceNe, Int.reduceTDiv, Int.reduceTMod, implies_true, putL, appN, appX, appC, Eng.Fi, reduceCtorEq, exists_eq_left', exists_eq_left, if_true, if_false, List.replicate, Nat.reduceAdd, Nat.reduceSub, Nat.reduceMul, Nat.reduceLeDiff, Nat.reduceLT, Nat.reduceEqDiff]
          exact ⟨rfl, rfl⟩
        · simp +contextual -implicitDefEqProofs (maxSteps := 2000000) only [S36, e1, y99, y99n, hle, ouv, ouh, core, rs_nil, rs_t, rs_f, ag_nils, ag_sl, ag_vs, ag_str, ag_ptr, ag_nilp, ag_vp, ag_fun, addB, ruH, ruB, Int.reduceLT, Int.reduceLE, Int.reduceAdd, Int.reduceSub, Int.reduceMul, Int.reduceNeg, Int.reduceToNat, Int.reduceEq, Int.reduceNe, Int.reduceTDiv, Int.reduceTMod, implies_true, putL, appN, appX, appC, Eng.Fi, reduceCtorEq, exists_eq_left', exists_eq_left, if_true, if_false, List.replicate, Nat.reduceAdd, Nat.reduceSub, Nat.reduceMul, Nat.reduceLeDiff, Nat.reduceLT, Nat.reduceEqDiff]
          exact ⟨rfl, rfl⟩
      | cons r o =>
        have ho2 : (o.length ≤ 1000) = True := by simp only [List.length_cons] at ho; simp only [eq_iff_iff, iff_true]; omega
        have t1 : (o.length ≤ (o.map eN).length) = True := by simp
        have t2 : (o.map eN ++ [eN ⟨fr, hi⟩]).take (o.length + 1) = o.map eN ++ [eN ⟨fr, hi⟩] := by rw [List.take_of_length_le]; simp
        have t3 : (o.map eN).take o.length = o.map eN := by rw [List.take_of_length_le]; simp
        by_cases hle : fr ≤ hi
        · simp +contextual -implicitDefEqProofs (maxSteps := 2000000) only [S36, e1, y99, y99c, ho2, hle, ouv, ouh, r99, rs_nil, rs_t, rs_f, ag_nils, ag_sl, ag_vs, ag_str, ag_ptr, ag_nilp, ag_vp, ag_fun, List.map_cons, addB, t1, t2, ruH, ruB, Int.reduceLT, Int.reduceLE, Int.reduceAdd, Int.reduceSub, Int.reduceMul, Int.reduceNeg, Int.reduceToNat, Int.reduceEq, Int.reduceNe, Int.reduceTDiv, Int.reduceTMod, implies_true, putL, appN, appX, appC, Eng.Fi, reduceCtorEq, exists_eq_left', exists_eq_left, if_true, if_false, List.replicate, Nat.reduceAdd, Nat.reduceSub, Nat.reduceMul, Nat.reduceLeDiff, Nat.reduceLT, Nat.reduceEqDiff]
          simp [free_N, subs_app, subs, sub1]
        · simp +contextual -implicitDefEqProofs (maxSteps := 2000000) only [S36, e1, y99, y99c, ho2, hle, ouv, ouh, core, rs_nil, rs_t, rs_f, ag_nils, ag_sl, ag_vs, ag_str, ag_ptr, ag_nilp, ag_vp, ag_fun, List.map_cons, addB, t1, t3, ruH, ruB, Int.reduceLT, Int.reduceLE, Int.reduceAdd, Int.reduceSub, Int.reduceMul, Int.reduceNeg, Int.reduceToNat, Int.reduceEq, Int.reduceNe, Int.reduceTDiv, Int.reduceTMod, implies_true, putL, appN, appX, appC, Eng.Fi, reduceCtorEq, exists_eq_left', exists_eq_left, if_true, if_false, List.replicate, Nat.reduceAdd, Nat.reduceSub, Nat.reduceMul, Nat.reduceLeDiff, Nat.reduceLT, Nat.reduceEqDiff]
          simp [free_N]
  · simp +contextual -implicitDefEqProofs (maxSteps := 2000000) only [bg_eq, a36, x97, x98, x85, x84, r84s, Lmax, h', h0, blindL, blE, not_false_eq_true, ruH, ruB, Int.reduceLT, Int.reduceLE, Int.reduceAdd, Int.reduceSub, Int.reduceMul, Int.reduceNeg, Int.reduceToNat, Int.reduceEq, Int.reduceNe, Int.reduceTDiv, Int.reduceTMod, implies_true, putL, appN, appX, appC, Eng.Fi, reduceCtorEq, exists_eq_left', exists_eq_left, if_true, if_false, List.replicate, Nat.reduceAdd, Nat.reduceSub, Nat.reduceMul, Nat.reduceLeDiff, Nat.reduceLT, Nat.reduceEqDiff]
    exact ⟨rfl, rfl⟩

def S43 (a b : List Rg) (n : Nat) : AState := ⟨[.vs (a.map eN), .vs (b.map eN), .any, .any, .any, I n, .any, .any, .any, .any, .any, .any, .any, .any, .any, .any, .any, .any, .any, .any, .any, .any, .any, .any, .any, .any], [], 0⟩
theorem k43 (a b : List Rg) (ha : a.length ≤ 1099511627776) (hb : b.length ≤ 1099511627776) : FOk P 43 [.vs (a.map eN), .vs (b.map eN)] (B (decide (a = b))) := by
  refine c43.fok (by simp only [subs, sub1, free_N]) (Cor.run (noC_good _) (noHx_good _) hm ?_)
  by_cases hl : a.length = b.length
  · have hl' : ((a.length : Int) = (b.length : Int)) = True := by simp [hl]
    simp +contextual -implicitDefEqProofs (maxSteps := 2000000) only [bg_eq, a43, List.length_map, hl', not_true_eq_false, ruB, rh_no, Int.reduceLT, Int.reduceLE, Int.reduceAdd, Int.reduceSub, Int.reduceMul, Int.reduceNeg, Int.reduceToNat, Int.reduceEq, Int.reduceNe, Int.reduceTDiv, Int.reduceTMod, implies_true, putL, appN, appX, appC, Eng.Fi, reduceCtorEq, exists_eq_left', exists_eq_left, if_true, if_false, List.replicate, Nat.reduceAdd, Nat.reduceSub, Nat.reduceMul, Nat.reduceLeDiff, Nat.reduceLT, Nat.reduceEqDiff]
    refine Cor.lp (noC_good _) (noHx_good _) hm (S43 a b) (fun n => n ≤ a.length ∧ (a = b ↔ a.drop n = b.drop n)) (fun n => a.length - n) (a := 0) ⟨Nat.zero_le _, by simp⟩ (Wkn.keep [0, 1, 5] rfl) ?_
    intro f n ⟨hn, ht⟩ go
    rcases Nat.lt_or_ge n a.length with h | h
    · have e1 : decide ((n : Int) < (a.length : Int)) = true := by simp; omega
      have hb : n < b.length := by omega
      have e2 : (a.map eN)[n]? = some (eN a[n]) := by simp [h]
      have e2b : (b.map eN)[n]? = some (eN b[n]) := by simp [hb]
      have e3 : IntKind.wrap .i64 ((n : Int) + 1) = ((n + 1 : Nat) : Int) := by rw [wrap64 (by omega) (by omega)]; rfl
      rw [List.drop_eq_getElem_cons h, List.drop_eq_getElem_cons hb] at ht
      have hx : a[n] = b[n] ↔ (a[n].lo = b[n].lo ∧ a[n].hi = b[n].hi) := Rg.ext_iff
      simp +contextual -implicitDefEqProofs (maxSteps := 2000000) only [S43, e1, e2, e2b, e3, List.length_map, ruB, rh_no, Int.reduceLT, Int.reduceLE, Int.reduceAdd, Int.reduceSub, Int.reduceMul, Int.reduceNeg, Int.reduceToNat, Int.reduceEq, Int.reduceNe, Int.reduceTDiv, Int.reduceTMod, implies_true, putL, appN, appX, appC, Eng.Fi, reduceCtorEq, exists_eq_left', exists_eq_left, if_true, if_false, List.replicate, Nat.reduceAdd, Nat.reduceSub, Nat.reduceMul, Nat.reduceLeDiff, Nat.reduceLT, Nat.reduceEqDiff]
      refine ⟨fun hne => ?_, fun he => go _ (n + 1) ⟨h, ?_⟩ (by omega) (Wkn.keep [0, 1, 5] rfl)⟩
      · have : ¬ a = b := fun x => by
          have := ht.1 x
          simp only [List.cons.injEq] at this
          exact hne (hx.1 this.1)
        simp [this]
      · rw [ht]
        rw [hx.2 he]
        simp only [List.cons.injEq, true_and]
    · have e1 : decide ((n : Int) < (a.length : Int)) = false := by simp; omega
      rw [List.drop_eq_nil_of_le h, List.drop_eq_nil_of_le (by omega)] at ht
      simp +contextual -implicitDefEqProofs (maxSteps := 2000000) only [S43, e1, List.length_map, ruB, rh_no, Int.reduceLT, Int.reduceLE, Int.reduceAdd, Int.reduceSub, Int.reduceMul, Int.reduceNeg, Int.reduceToNat, Int.reduceEq, Int.reduceNe, Int.reduceTDiv, Int.reduceTMod, implies_true, putL, appN, appX, appC, Eng.Fi, reduceCtorEq, exists_eq_left', exists_eq_left, if_true, if_false, List.replicate, Nat.reduceAdd, Nat.reduceSub, Nat.reduceMul, Nat.reduceLeDiff, Nat.reduceLT, Nat.reduceEqDiff]
      simp [ht.2 rfl]
  · have hl' : ((a.length : Int) = (b.length : Int)) = False := by simp; omega
    have hne : (a = b) = False := by simp only [eq_iff_iff, iff_false]; exact fun x => hl (by rw [x])
    simp +contextual -implicitDefEqProofs (maxSteps := 2000000) only [bg_eq, a43, List.length_map, hl', not_false_eq_true, hne, ruB, rh_no, Int.reduceLT, Int.reduceLE, Int.reduceAdd, Int.reduceSub, Int.reduceMul, Int.reduceNeg, Int.reduceToNat, Int.reduceEq, Int.reduceNe, Int.reduceTDiv, Int.reduceTMod, implies_true, putL, appN, appX, appC, Eng.Fi, reduceCtorEq, exists_eq_left', exists_eq_left, if_true, if_false, List.replicate, Nat.reduceAdd, Nat.reduceSub, Nat.reduceMul, Nat.reduceLeDiff, Nat.reduceLT, Nat.reduceEqDiff]
def S28 (a b : List Al) (n : Nat) : AState := ⟨[.vs (a.map eA), .vs (b.map eA), .any, .any, .any, I n, .any, .any, .any, .any, .any, .any, .any, .any, .any, .any, .any, .any, .any, .any, .any, .any, .any, .any, .any, .any], [], 0⟩
theorem k28 (a b : List Al) (ha : a.length ≤ 1099511627776) (hb : b.length ≤ 1099511627776) : FOk P 28 [.vs (a.map eA), .vs (b.map eA)] (B (decide (a = b))) := by
  refine c28.fok (by simp only [subs, sub1, free_A]) (Cor.run (noC_good _) (noHx_good _) hm ?_)
  by_cases hl : a.length = b.length
  · have hl' : ((a.length : Int) = (b.length : Int)) = True := by simp [hl]
    simp +contextual -implicitDefEqProofs (maxSteps := 2000000) only [bg_eq, a28, List.length_map, hl', not_true_eq_false, ruB, rh_no, Int.reduceLT, Int.reduceLE, Int.reduceAdd, Int.reduceSub, Int.reduceMul, Int.reduceNeg, Int.reduceToNat, Int.reduceEq, Int.reduceNe, Int.reduceTDiv, Int.reduceTMod, implies_true, putL, appN, appX, appC, Eng.Fi, reduceCtorEq, exists_eq_left', exists_eq_left, if_true, if_false, List.replicate, Nat.reduceAdd, Nat.reduceSub, Nat.reduceMul, Nat.reduceLeDiff, Nat.reduceLT, Nat.reduceEqDiff]
    refine Cor.lp (noC_good _) (noHx_good _) hm (S28 a b) (fun n => n ≤ a.length ∧ (a = b ↔ a.drop n = b.drop n)) (fun n => a.length - n) (a := 0) ⟨Nat.zero_le _, by simp⟩ (Wkn.keep [0, 1, 5] rfl) ?_
    intro f n ⟨hn, ht⟩ go
    rcases Nat.lt_or_ge n a.length with h | h
    · have e1 : decide ((n : Int) < (a.length : Int)) = true := by simp; omega
      have hb : n < b.length := by omega
      have e2 : (a.map eA)[n]? = some (eA a[n]) := by simp [h]
      have e2b : (b.map eA)[n]? = some (eA b[n]) := by simp [hb]
      have e3 : IntKind.wrap .i64 ((n : Int) + 1) = ((n + 1 : Nat) : Int) := by rw [wrap64 (by omega) (by omega)]; rfl
      rw [List.drop_eq_getElem_cons h, List.drop_eq_getElem_cons hb] at ht
      have hx : a[n] = b[n] ↔ (a[n].num = b[n].num ∧ a[n].fr = b[n].fr ∧ a[n].to = b[n].to) := Al.ext_iff
      simp +contextual -implicitDefEqProofs (maxSteps := 2000000) only [S28, e1, e2, e2b, e3, List.length_map, ruB, rh_no, Int.reduceLT, Int.reduceLE, Int.reduceAdd, Int.reduceSub, Int.reduceMul, Int.reduceNeg, Int.reduceToNat, Int.reduceEq, Int.reduceNe, Int.reduceTDiv, Int.reduceTMod, implies_true, putL, appN, appX, appC, Eng.Fi, reduceCtorEq, exists_eq_left', exists_eq_left, if_true, if_false, List.replicate, Nat.reduceAdd, Nat.reduceSub, Nat.reduceMul, Nat.reduceLeDiff, Nat.reduceLT, Nat.reduceEqDiff]
      refine ⟨fun hne => ?_, fun he => go _ (n + 1) ⟨h, ?_⟩ (by omega) (Wkn.keep [0, 1, 5] rfl)⟩
      · have : ¬ a = b := fun x => by
          have := ht.1 x
          simp only [List.cons.injEq] at this
          exact hne (hx.1 this.1)
        simp [this]
      · rw [ht]
        rw [hx.2 he]
        simp only [List.cons.injEq, true_and]
    · have e1 : decide ((n : Int) < (a.length : Int)) = false := by simp; omega
      rw [List.drop_eq_nil_of_le h, List.drop_eq_nil_of_le (by omega)] at ht
      simp +contextual -implicitDefEqProofs (maxSteps := 2000000) only [S28, e1, List.length_map, ruB, rh_no, Int.reduceLT, Int.reduceLE, Int.reduceAdd, Int.reduceSub, Int.reduceMul, Int.reduceNeg, Int.reduceToNat, Int.reduceEq, Int.reduceNe, Int.reduceTDiv, Int.reduceTMod, implies_true, putL, appN, appX, appC, Eng.Fi, reduceCtorEq, exists_eq_left', exists_eq_left, if_true, if_false, List.replicate, Nat.reduceAdd, Nat.reduceSub, Nat.reduceMul, Nat.reduceLeDiff, Nat.reduceLT, Nat.reduceEqDiff]
      simp [ht.2 rfl]
  · have hl' : ((a.length : Int) = (b.length : Int)) = False := by simp; omega
    have hne : (a = b) = False := by simp only [eq_iff_iff, iff_false]; exact fun x => hl (by rw [x])
    simp +contextual -implicitDefEqProofs (maxSteps := 2000000) only [bg_eq, a28, List.length_map, hl', not_false_eq_true, hne, ruB, rh_no, Int.reduceLT, Int.reduceLE, Int.reduceAdd, Int.reduceSub, Int.reduceMul, Int.reduceNeg, Int.reduceToNat, Int.reduceEq, Int.reduceNe, Int.reduceTDiv, Int.reduceTMod, implies_true, putL, appN, appX, appC, Eng.Fi, reduceCtorEq, exists_eq_left', exists_eq_left, if_true, if_false, List.replicate, Nat.reduceAdd, Nat.reduceSub, Nat.reduceMul, Nat.reduceLeDiff, Nat.reduceLT, Nat.reduceEqDiff]

end Sh
