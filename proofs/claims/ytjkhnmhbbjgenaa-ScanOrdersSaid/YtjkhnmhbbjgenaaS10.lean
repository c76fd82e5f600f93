import Derived.Test.YtjkhnmhbbjgenaaEngS9
import Derived.Test.YtjkhnmhbbjgenaaS9
import Derived.Test.YtjkhnmhbbjgenaaEngSE
open Go Go.Proofs Eng
set_option maxRecDepth 100000
set_option linter.unusedSimpArgs false
set_option linter.unusedVariables false
def a104 : AC := .seq (.ops false [] [⟨some 2, .box 42 7 1 true, [.t 0], none⟩, ⟨some 4, .alloc 142 8 [.agg [.int .i64 0, .int .i64 0, .int .i64 0, .int .i64 0, .int .i64 0, .int .i64 0, .nilslice, .nilslice]], [], none⟩, ⟨some 5, .p (.mov), [.c (.int .i64 0)], none⟩]) (.seq (.ops false [] [⟨some 9, .load 7 true, [.t 2], none⟩, ⟨some 10, .call 95, [.t 9], none⟩, ⟨some 11, .p (.mov), [.t 1], none⟩, ⟨some 12, .p (.lenS), [.t 11], none⟩, ⟨some 13, .p (.binI .gtr), [.t 12, .c (.int .i64 0)], none⟩, ⟨some 14, .call 79, [.t 13, .c (.int .i64 10)], none⟩, ⟨some 15, .p (.mov), [.t 1], none⟩, ⟨some 16, .p (.lenS), [.t 15], none⟩, ⟨some 17, .p (.binI .leq), [.t 16, .c (.int .i64 6)], none⟩, ⟨some 18, .call 79, [.t 17, .c (.int .i64 8)], none⟩, ⟨some 19, .fbs 1, [.t 10, .t 14, .t 18], none⟩, ⟨some 20, .call 86, [.t 19], none⟩, ⟨some 6, .p (.mov), [.t 20], none⟩]) (.seq (.seq (.ops false [] [⟨some 21, .p (.mov), [.t 1], none⟩, ⟨some 22, .p (.lenS), [.t 21], none⟩, ⟨some 23, .p (.mov), [.c (.int .i64 0)], none⟩]) (.block 0 (.loop (.seq (.ops false [] [⟨some 24, .p (.binI .lss), [.t 23, .t 22], none⟩]) (.seq (.cond (.t 24) (.skip) (.exit 0)) (.seq (.block 1 (.seq (.ops false [] [⟨some 25, .p (.iaddrS 2), [.t 21, .t 23], none⟩, ⟨some 26, .load 2 true, [.t 25], none⟩, ⟨some 8, .alloc 37 2 [.agg [.int .i64 0, .int .i64 0]], [], none⟩, ⟨none, .store 2 true, [.t 8, .t 26], none⟩]) (.ops false [] [⟨some 27, .p (.mov), [.t 6], none⟩, ⟨some 28, .load 2 true, [.t 8], none⟩, ⟨some 29, .call 91, [.t 28], none⟩, ⟨some 30, .fbs 1, [.t 27, .t 29], none⟩, ⟨some 31, .call 86, [.t 30], none⟩, ⟨some 6, .p (.mov), [.t 31], none⟩]))) (.ops false [] [⟨some 32, .p (.binI .add), [.t 23, .c (.int .i64 1)], none⟩, ⟨some 23, .p (.mov), [.t 32], none⟩]))))))) (.seq (.ops false [] [⟨some 33, .load 7 true, [.t 2], none⟩, ⟨some 34, .p (.mov), [.t 1], none⟩, ⟨some 35, .p (.build [.int .i64 0, .int .i64 0, .int .i64 0, .int .i64 0, .int .i64 0, .int .i64 0, .nilslice, .nilslice] [(0, 7), (7, 1)]), [.t 33, .t 34], none⟩, ⟨some 36, .p (.mov), [.t 6], none⟩, ⟨none, .store 8 true, [.t 4, .t 35], none⟩, ⟨some 5, .p (.mov), [.t 36], none⟩]) (.ret))))
theorem c104 : FnC Try.prog 104 37 a104 [.cell 4 8 true, .tmp 5] := ⟨Try.call104, _, _, Try.func104, rfl, by kernel_rfl, by kernel_rfl, rfl⟩
def a107 : AC := .seq (.ops false [] [⟨some 2, .box 142 8 1 true, [.t 0], none⟩, ⟨some 4, .p (.mov), [.c (.int .i64 0)], none⟩, ⟨some 5, .p (.mov), [.c (.bool false)], none⟩]) (.seq (.ops true [(2, 3)] [⟨some 12, .p (.faddr 0), [.t 2], none⟩, ⟨some 13, .p (.faddr 0), [.t 12], none⟩, ⟨some 14, .load 2 true, [.t 13], none⟩, ⟨some 7, .alloc 37 2 [.agg [.int .i64 0, .int .i64 0]], [], none⟩, ⟨some 6, .p (.mov), [.c (.int .i64 0)], none⟩, ⟨none, .store 2 true, [.t 7, .t 14], none⟩]) (.seq (.seq (.ops false [] [⟨some 15, .p (.mov), [.t 1], none⟩, ⟨some 16, .p (.lenS), [.t 15], none⟩, ⟨some 17, .p (.mov), [.c (.int .i64 0)], none⟩]) (.block 0 (.loop (.seq (.ops false [] [⟨some 18, .p (.binI .lss), [.t 17, .t 16], none⟩]) (.seq (.cond (.t 18) (.skip) (.exit 0)) (.seq (.block 1 (.seq (.ops false [] [⟨some 19, .p (.iaddrS 1), [.t 15, .t 17], none⟩, ⟨some 20, .load 1 false, [.t 19], none⟩, ⟨some 9, .p (.mov), [.t 20], none⟩]) (.seq (.seq (.ops true [(1, 12), (2, 12), (4, 12), (7, 12), (8, 12)] [⟨some 22, .p (.faddr 0), [.t 2], none⟩, ⟨some 23, .load 7 true, [.t 22], none⟩, ⟨some 24, .load 2 true, [.t 7], none⟩, ⟨some 25, .p (.faddr 7), [.t 2], none⟩, ⟨some 26, .load 1 false, [.t 25], none⟩, ⟨some 27, .p (.mov), [.t 9], none⟩, ⟨some 28, .p (.iaddrS 2), [.t 26, .t 27], none⟩, ⟨some 29, .load 2 true, [.t 28], none⟩, ⟨some 30, .call 84, [.t 23, .t 24, .t 29], none⟩, ⟨some 21, .p (.mov), [.t 30], none⟩, ⟨some 31, .p (.ext 0), [.t 21], none⟩, ⟨some 32, .p (.ext 1), [.t 21], none⟩, ⟨some 10, .alloc 37 2 [.agg [.int .i64 0, .int .i64 0]], [], none⟩, ⟨none, .store 2 true, [.t 10, .t 31], none⟩, ⟨some 11, .p (.mov), [.t 32], none⟩]) (.seq (.ops false [] [⟨some 33, .p (.mov), [.t 11], none⟩]) (.cond (.t 33) (.seq (.ops false [] [⟨some 4, .p (.mov), [.c (.int .i64 0)], none⟩, ⟨some 5, .p (.mov), [.c (.bool false)], none⟩]) (.ret)) (.skip)))) (.seq (.ops true [] [⟨some 34, .p (.mov), [.t 6], none⟩, ⟨some 35, .p (.faddr 0), [.t 2], none⟩, ⟨some 36, .load 7 true, [.t 35], none⟩, ⟨some 37, .load 2 true, [.t 7], none⟩, ⟨some 38, .p (.faddr 7), [.t 2], none⟩, ⟨some 39, .load 1 false, [.t 38], none⟩, ⟨some 40, .p (.mov), [.t 9], none⟩, ⟨some 41, .p (.iaddrS 2), [.t 39, .t 40], none⟩, ⟨some 42, .load 2 true, [.t 41], none⟩, ⟨some 43, .call 98, [.t 36, .t 37, .t 42], none⟩, ⟨some 44, .p (.binI .add), [.t 34, .t 43], none⟩, ⟨some 6, .p (.mov), [.t 44], none⟩]) (.ops false [] [⟨some 45, .p (.faddr 7), [.t 2], none⟩, ⟨some 46, .load 1 false, [.t 45], none⟩, ⟨some 47, .p (.mov), [.t 9], none⟩, ⟨some 48, .p (.iaddrS 2), [.t 46, .t 47], none⟩, ⟨some 49, .load 2 true, [.t 48], none⟩, ⟨none, .store 2 true, [.t 7, .t 49], none⟩]))))) (.ops false [] [⟨some 50, .p (.binI .add), [.t 17, .c (.int .i64 1)], none⟩, ⟨some 17, .p (.mov), [.t 50], none⟩]))))))) (.seq (.ops false [] [⟨some 51, .p (.mov), [.t 6], none⟩, ⟨some 4, .p (.mov), [.t 51], none⟩, ⟨some 5, .p (.mov), [.c (.bool true)], none⟩]) (.ret))))
theorem c107 : FnC Try.prog 107 52 a107 [.tmp 4, .tmp 5] := ⟨Try.call107, _, _, Try.func107, rfl, by kernel_rfl, by kernel_rfl, rfl⟩
def a108 : AC := .seq (.ops false [] [⟨some 2, .p (.mov), [.c (.nilslice)], none⟩]) (.seq (.seq (.ops false [] [⟨some 3, .p (.mov), [.t 0], none⟩, ⟨some 4, .p (.eqN false .s), [.t 3, .c (.nilslice)], none⟩]) (.cond (.t 4) (.seq (.ops false [] [⟨some 2, .p (.mov), [.c (.nilslice)], none⟩]) (.ret)) (.skip))) (.seq (.ops false [] [⟨some 5, .bsl 3 1, [], none⟩, ⟨some 6, .p (.mov), [.t 0], none⟩, ⟨some 7, .app 3 1 8, [.t 5, .t 6], none⟩, ⟨some 2, .p (.mov), [.t 7], none⟩]) (.ret)))
theorem c108 : FnC Try.prog 108 8 a108 [.tmp 2] := ⟨Try.call108, _, _, Try.func108, rfl, by kernel_rfl, by kernel_rfl, rfl⟩
def a109 : AC := .seq (.ops false [] [⟨some 4, .p (.mov), [.c (.bool false)], none⟩]) (.seq (.ops false [] [⟨some 5, .p (.mov), [.t 0], none⟩, ⟨some 6, .p (.mov), [.t 1], none⟩, ⟨some 7, .call 128, [.t 5, .t 6], none⟩, ⟨some 8, .p (.binI .geq), [.t 7, .c (.int .i64 0)], none⟩, ⟨some 4, .p (.mov), [.t 8], none⟩]) (.ret))
theorem c109 : FnC Try.prog 109 9 a109 [.tmp 4] := ⟨Try.call109, _, _, Try.func109, rfl, by kernel_rfl, by kernel_rfl, rfl⟩
def a127 : AC := .seq (.ops false [] [⟨some 2, .p (.mov), [.c (.nilslice)], none⟩]) (.seq (.ops false [] [⟨some 3, .p (.mov), [.t 0], none⟩, ⟨some 4, .p (.mov), [.t 0], none⟩, ⟨some 5, .p (.lenS), [.t 4], none⟩, ⟨some 6, .p (.mov), [.t 0], none⟩, ⟨some 7, .p (.lenS), [.t 6], none⟩, ⟨some 8, .p (.slc 1 false true true), [.t 3, .t 5, .t 7], none⟩, ⟨some 2, .p (.mov), [.t 8], none⟩]) (.ret))
theorem c127 : FnC Try.prog 127 9 a127 [.tmp 2] := ⟨Try.call127, _, _, Try.func127, rfl, by kernel_rfl, by kernel_rfl, rfl⟩
def a128 : AC := .seq (.ops false [] [⟨some 4, .p (.mov), [.c (.int .i64 0)], none⟩]) (.seq (.seq (.ops false [] [⟨some 6, .p (.mov), [.t 0], none⟩, ⟨some 7, .p (.lenS), [.t 6], none⟩, ⟨some 8, .p (.mov), [.c (.int .i64 0)], none⟩]) (.block 0 (.loop (.seq (.ops false [] [⟨some 9, .p (.binI .lss), [.t 8, .t 7], none⟩]) (.seq (.cond (.t 9) (.skip) (.exit 0)) (.seq (.block 1 (.seq (.ops false [] [⟨some 10, .p (.mov), [.t 8], none⟩, ⟨some 5, .p (.mov), [.t 10], none⟩]) (.seq (.ops false [] [⟨some 11, .p (.mov), [.t 1], none⟩, ⟨some 12, .p (.mov), [.t 0], none⟩, ⟨some 13, .p (.mov), [.t 5], none⟩, ⟨some 14, .p (.iaddrS 1), [.t 12, .t 13], none⟩, ⟨some 15, .load 1 false, [.t 14], none⟩, ⟨some 16, .p (.binI .eql), [.t 11, .t 15], none⟩]) (.cond (.t 16) (.seq (.ops false [] [⟨some 17, .p (.mov), [.t 5], none⟩, ⟨some 4, .p (.mov), [.t 17], none⟩]) (.ret)) (.skip))))) (.ops false [] [⟨some 18, .p (.binI .add), [.t 8, .c (.int .i64 1)], none⟩, ⟨some 8, .p (.mov), [.t 18], none⟩]))))))) (.seq (.ops false [] [⟨some 4, .p (.mov), [.c (.int .i64 (-1))], none⟩]) (.ret)))
theorem c128 : FnC Try.prog 128 19 a128 [.tmp 4] := ⟨Try.call128, _, _, Try.func128, rfl, by kernel_rfl, by kernel_rfl, rfl⟩
namespace Sc
def dI : AV → Option Int
  | .int .i64 n => some n
  | _ => none
theorem dI_e (x : Int) : dI (I x) = some x := rfl
theorem dI_inv (v : AV) (x : Int) (h : dI v = some x) : v = I x := by
  unfold dI at h
  split at h
  · cases h; rfl
  · cases h
abbrev eI (n : Int) : AV := I n
theorem free_I (φ : Nat → Fate) (l : List Int) : subs φ (l.map eI) = l.map eI := subs_mapE φ _ (fun _ => rfl) l
def ixG (x : Int) : Nat → List Int → Int
  | _, [] => -1
  | n, y :: r => if x = y then n else ixG x (n + 1) r
theorem ixG_mem (x : Int) : ∀ (l : List Int) (n : Nat), decide (0 ≤ ixG x n l) = decide (x ∈ l)
  | [], n => by simp [ixG]
  | y :: r, n => by
    rw [ixG]
    split
    · rename_i h; simp [h]
    · rename_i h; rw [ixG_mem x r (n + 1)]; simp [h]
def S128 (l : List Int) (x : Int) (n : Nat) : AState := ⟨[.vs (l.map eI), I x, .any, .any, .any, .any, .vs (l.map eI), I l.length, I n, .any, .any, .any, .any, .any, .any, .any, .any, .any, .any], [], 0⟩
theorem k_IndexI (l : List Int) (x : Int) (hl : l.length ≤ 1099511627776) : FOk P 128 [.vs (l.map eI), I x] (I (ixG x 0 l)) := by
  refine c128.fok (by simp only [subs, sub1, free_I]) (Cor.run (noC_good _) (noHx_good _) hm ?_)
  simp +contextual -implicitDefEqProofs (maxSteps := 2000000) only [bg_eq, a128, List.length_map, ruB, rh_no, Int.reduceLT, Int.reduceLE, Int.reduceAdd, Int.reduceSub, Int.reduceMul, Int.reduceNeg, Int.reduceToNat, Int.reduceEq, Int.reduceNe, Int.reduceTDiv, Int.reduceTMod, implies_true, putL, appN, appX, appC, Eng.Fi, reduceCtorEq, exists_eq_left', exists_eq_left, if_true, if_false, List.replicate, Nat.reduceAdd, Nat.reduceSub, Nat.reduceMul, Nat.reduceLeDiff, Nat.reduceLT, Nat.reduceEqDiff]
  refine Cor.lp (noC_good _) (noHx_good _) hm (S128 l x) (fun n => n ≤ l.length ∧ ixG x 0 l = ixG x n (l.drop n)) (fun n => l.length - n) (a := 0) ⟨Nat.zero_le _, rfl⟩ (Wkn.keep [0, 1, 6, 7, 8] rfl) ?_
  intro f n ⟨hn, hf⟩ go
  rcases Nat.lt_or_ge n l.length with h | h
  · have e1 : decide ((n : Int) < (l.length : Int)) = true := lt_t h
    have e2 : (l.map eI)[n]? = some (eI l[n]) := get_e eI l h
    have e3 : IntKind.wrap .i64 ((n : Int) + 1) = ((n + 1 : Nat) : Int) := suc_w (by omega)
    rw [List.drop_eq_getElem_cons h, ixG] at hf
    by_cases hc : x = l[n]
    · rw [if_pos hc] at hf
      rw [hf]
      simp +contextual -implicitDefEqProofs (maxSteps := 2000000) only [S128, e1, e2, e3, hc, ruB, rh_no, Int.reduceLT, Int.reduceLE, Int.reduceAdd, Int.reduceSub, Int.reduceMul, Int.reduceNeg, Int.reduceToNat, Int.reduceEq, Int.reduceNe, Int.reduceTDiv, Int.reduceTMod, implies_true, putL, appN, appX, appC, Eng.Fi, reduceCtorEq, exists_eq_left', exists_eq_left, if_true, if_false, List.replicate, Nat.reduceAdd, Nat.reduceSub, Nat.reduceMul, Nat.reduceLeDiff, Nat.reduceLT, Nat.reduceEqDiff]
    · rw [if_neg hc] at hf
      simp +contextual -implicitDefEqProofs (maxSteps := 2000000) only [S128, e1, e2, e3, hc, ruB, rh_no, Int.reduceLT, Int.reduceLE, Int.reduceAdd, Int.reduceSub, Int.reduceMul, Int.reduceNeg, Int.reduceToNat, Int.reduceEq, Int.reduceNe, Int.reduceTDiv, Int.reduceTMod, implies_true, putL, appN, appX, appC, Eng.Fi, reduceCtorEq, exists_eq_left', exists_eq_left, if_true, if_false, List.replicate, Nat.reduceAdd, Nat.reduceSub, Nat.reduceMul, Nat.reduceLeDiff, Nat.reduceLT, Nat.reduceEqDiff]
      exact go _ (n + 1) ⟨h, hf⟩ (by omega) (Wkn.keep [0, 1, 6, 7, 8] rfl)
  · have e1 : decide ((n : Int) < (l.length : Int)) = false := lt_f h
    rw [List.drop_eq_nil_of_le h] at hf
    rw [hf]
    simp +contextual -implicitDefEqProofs (maxSteps := 2000000) only [S128, e1, ixG, ruB, rh_no, Int.reduceLT, Int.reduceLE, Int.reduceAdd, Int.reduceSub, Int.reduceMul, Int.reduceNeg, Int.reduceToNat, Int.reduceEq, Int.reduceNe, Int.reduceTDiv, Int.reduceTMod, implies_true, putL, appN, appX, appC, Eng.Fi, reduceCtorEq, exists_eq_left', exists_eq_left, if_true, if_false, List.replicate, Nat.reduceAdd, Nat.reduceSub, Nat.reduceMul, Nat.reduceLeDiff, Nat.reduceLT, Nat.reduceEqDiff]
def cf_IndexI : List AV → Option AV
  | [.vs l_v, .int .i64 x] => onL dI l_v fun l => if l.length ≤ 1099511627776 then some (I (ixG x 0 l)) else none
  | _ => none
theorem g_IndexI : Fn P 128 cf_IndexI := fun args v hh => by
  unfold cf_IndexI at hh; split at hh
  · obtain ⟨l, rfl, hh1⟩ := onL_inv dI_inv hh
    split at hh1
    · rename_i hc; have hk := Option.some.inj hh1; subst hk; exact k_IndexI _ _ hc
    · cases hh1
  · cases hh
theorem x_IndexI (l : List Int) (x : Int) (hc : (l.length ≤ 1099511627776) = True) : cf_IndexI [.vs (l.map eI), .int .i64 x] = some (I (ixG x 0 l)) := by
  simp only [cf_IndexI, onL_map dI_e]
  exact if_pos (by rw [hc]; trivial)
theorem k_ContainsI (l : List Int) (x : Int) (hl : l.length ≤ 1099511627776) : FOk P 109 [.vs (l.map eI), I x] (.bool (decide (x ∈ l))) := by
  have y := x_IndexI l x (by simp only [hl])
  rw [← ixG_mem x l 0]
  refine c109.fok (by simp only [subs, sub1, free_I]) (Cor.run (addC_good g_IndexI (noC_good _)) (noHx_good _) hm ?_)
  simp +contextual -implicitDefEqProofs (maxSteps := 2000000) only [bg_eq, a109, y, ruB, rh_no, Int.reduceLT, Int.reduceLE, Int.reduceAdd, Int.reduceSub, Int.reduceMul, Int.reduceNeg, Int.reduceToNat, Int.reduceEq, Int.reduceNe, Int.reduceTDiv, Int.reduceTMod, implies_true, putL, appN, appX, appC, Eng.Fi, reduceCtorEq, exists_eq_left', exists_eq_left, if_true, if_false, List.replicate, Nat.reduceAdd, Nat.reduceSub, Nat.reduceMul, Nat.reduceLeDiff, Nat.reduceLT, Nat.reduceEqDiff]
def cf_ContainsI : List AV → Option AV
  | [.vs l_v, .int .i64 x] => onL dI l_v fun l => if l.length ≤ 1099511627776 then some (.bool (decide (x ∈ l))) else none
  | _ => none
theorem g_ContainsI : Fn P 109 cf_ContainsI := fun args v hh => by
  unfold cf_ContainsI at hh; split at hh
  · obtain ⟨l, rfl, hh1⟩ := onL_inv dI_inv hh
    split at hh1
    · rename_i hc; have hk := Option.some.inj hh1; subst hk; exact k_ContainsI _ _ hc
    · cases hh1
  · cases hh
theorem x_ContainsI (l : List Int) (x : Int) (hc : (l.length ≤ 1099511627776) = True) : cf_ContainsI [.vs (l.map eI), .int .i64 x] = some (.bool (decide (x ∈ l))) := by
  simp only [cf_ContainsI, onL_map dI_e]
  exact if_pos (by rw [hc]; trivial)
theorem k_ClipI (l : List Int) (hl : l.length ≤ 1099511627776) : FOk P 127 [.vs (l.map eI)] (.vx (l.map eI)) := by
  refine c127.fok (by simp only [subs, sub1, free_I]) (Cor.run (noC_good _) (noHx_good _) hm ?_)
  have tk : (l.map eI).take l.length = l.map eI := by rw [List.take_of_length_le]; simp
  simp +contextual -implicitDefEqProofs (maxSteps := 2000000) only [bg_eq, a127, List.length_map, Nat.le_refl, tk, free_I, ruB, rh_no, Int.reduceLT, Int.reduceLE, Int.reduceAdd, Int.reduceSub, Int.reduceMul, Int.reduceNeg, Int.reduceToNat, Int.reduceEq, Int.reduceNe, Int.reduceTDiv, Int.reduceTMod, implies_true, putL, appN, appX, appC, Eng.Fi, reduceCtorEq, exists_eq_left', exists_eq_left, if_true, if_false, List.replicate, Nat.reduceAdd, Nat.reduceSub, Nat.reduceMul, Nat.reduceLeDiff, Nat.reduceLT, Nat.reduceEqDiff]
def cf_ClipI : List AV → Option AV
  | [.vs l_v] => onL dI l_v fun l => if l.length ≤ 1099511627776 then some (.vx (l.map eI)) else none
  | _ => none
theorem g_ClipI : Fn P 127 cf_ClipI := fun args v hh => by
  unfold cf_ClipI at hh; split at hh
  · obtain ⟨l, rfl, hh1⟩ := onL_inv dI_inv hh
    split at hh1
    · rename_i hc; have hk := Option.some.inj hh1; subst hk; exact k_ClipI _ hc
    · cases hh1
  · cases hh
theorem x_ClipI (l : List Int) (hc : (l.length ≤ 1099511627776) = True) : cf_ClipI [.vs (l.map eI)] = some (.vx (l.map eI)) := by
  simp only [cf_ClipI, onL_map dI_e]
  exact if_pos (by rw [hc]; trivial)
theorem k_CloneI (l : List Int) (hl : l ≠ [] ∧ l.length ≤ 1000) : FOk P 108 [.vs (l.map eI)] (.vs (l.map eI)) := by
  obtain ⟨h0, hl⟩ := hl
  refine c108.fok (by simp only [subs, sub1, free_I]) (Cor.run (noC_good _) (noHx_good _) hm ?_)
  cases l with
  | nil => exact absurd rfl h0
  | cons x r =>
    have fr := fun φ => free_I φ r
    have m1 : (r.length + 1 ≤ maxLen) = True := mx (by simp only [List.length_cons] at hl; omega)
    have m2 : ((r.length + 1) * 8 ≤ 140737488355328) = True := by simp only [eq_iff_iff, iff_true]; simp only [List.length_cons] at hl; omega
    have t0 : (r.map eI).length = r.length := by simp
    have t1 : (r.length ≤ (r.map eI).length) = True := by simp
    have t2 : (r.map eI).take r.length = r.map eI := by rw [List.take_of_length_le]; simp
    have al : (r.map eI).all (fun v => decide (v.cells.length = 1)) = true := by simp [List.all_map, AV.cells]
    simp +contextual -implicitDefEqProofs (maxSteps := 2000000) only [bg_eq, a108, List.map_cons, List.length_map, rs_nil, rs_t, rs_f, ag_nils, ag_sl, ag_vs, ag_str, ag_ptr, ag_nilp, ag_vp, ag_fun, m1, m2, t0, t1, t2, fr, Nat.le_refl, al, en_vs, ruB, rh_no, Int.reduceLT, Int.reduceLE, Int.reduceAdd, Int.reduceSub, Int.reduceMul, Int.reduceNeg, Int.reduceToNat, Int.reduceEq, Int.reduceNe, Int.reduceTDiv, Int.reduceTMod, implies_true, putL, appN, appX, appC, Eng.Fi, reduceCtorEq, exists_eq_left', exists_eq_left, if_true, if_false, List.replicate, Nat.reduceAdd, Nat.reduceSub, Nat.reduceMul, Nat.reduceLeDiff, Nat.reduceLT, Nat.reduceEqDiff]
def cf_CloneI : List AV → Option AV
  | [.vs l_v] => onL dI l_v fun l => if l ≠ [] ∧ l.length ≤ 1000 then some (.vs (l.map eI)) else none
  | _ => none
theorem g_CloneI : Fn P 108 cf_CloneI := fun args v hh => by
  unfold cf_CloneI at hh; split at hh
  · obtain ⟨l, rfl, hh1⟩ := onL_inv dI_inv hh
    split at hh1
    · rename_i hc; have hk := Option.some.inj hh1; subst hk; exact k_CloneI _ hc
    · cases hh1
  · cases hh
theorem x_CloneI (l : List Int) (hc : (l ≠ [] ∧ l.length ≤ 1000) = True) : cf_CloneI [.vs (l.map eI)] = some (.vs (l.map eI)) := by
  simp only [cf_CloneI, onL_map dI_e]
  exact if_pos (by rw [hc]; trivial)
structure Od where
  hd : Hd
  ds : List Dr
abbrev eOd (o : Od) : AV := .agg [I o.hd.home.az, I o.hd.home.el, I o.hd.ra, I o.hd.aa, I o.hd.re, I o.hd.ae, .vs (o.hd.res.map eSe), .vs (o.ds.map eDr)]
/-- ticks of an order: from d at t on, along the numbers -/
def tcG (o : Od) : Int → Dr → List Int → Option Int
  | t, _, [] => some t
  | t, d, k :: r => match o.ds[k.toNat]? with
    | some x => (match litL o.hd d x with
      | some _ => none
      | none => tcG o (t + mvT o.hd d x) x r)
    | none => none
def tcV : Option Int → AV
  | some t => .tup [I t, .bool true]
  | none => .tup [I 0, .bool false]
/-- right orders -/
def odR (o : Od) : Prop := (hdE o.hd = 0 ∧ o.ds.length ≤ 6) ∧ ∀ d ∈ o.ds, drR d
def S107 (o : Od) (l : List Int) (p : Nat × Int × Dr) : AState := ⟨[.any, .any, .vp [eOd o] 0 0, .any, .any, .any, I p.2.1, .ptr 0 2 0 0, .any, .any, .any, .any, .any, .any, .any, .vs (l.map eI), I l.length, I p.1, .any, .any, .any, .any, .any, .any, .any, .any, .any, .any, .any, .any, .any, .any, .any, .any, .any, .any, .any, .any, .any, .any, .any, .any, .any, .any, .any, .any, .any, .any, .any, .any, .any, .any], [⟨0, 0, .rows 37 2 [eDr p.2.2]⟩], 1⟩
theorem k_ticks0 (o : Od) (l : List Int) (ho : odR o) (hl : l.length ≤ 6 ∧ ∀ k ∈ l, 0 ≤ k ∧ k < o.ds.length) : FOk P 107 [eOd o, .vs (l.map eI)] (tcV (tcG o 0 o.hd.home l)) := by
  obtain ⟨⟨hh, h6⟩, hds⟩ := ho
  obtain ⟨hl6, hlk⟩ := hl
  have hz := hdE_zero hh
  have hres : o.hd.res.length ≤ 1000 ∧ ∀ s ∈ o.hd.res, seR s := ⟨by have := hz.1.2; omega, fun s hs => (hz.2.1 s hs).1⟩
  refine c107.fok (by simp only [subs, sub1, free_I, free_Se, free_Dr]) (Cor.run (addC_good g_moveTicks (addC_good g_lit (noC_good _))) (noHx_good _) hm ?_)
  simp +contextual -implicitDefEqProofs (maxSteps := 2000000) only [bg_eq, a107, List.length_map, ruB, rh_no, Int.reduceLT, Int.reduceLE, Int.reduceAdd, Int.reduceSub, Int.reduceMul, Int.reduceNeg, Int.reduceToNat, Int.reduceEq, Int.reduceNe, Int.reduceTDiv, Int.reduceTMod, implies_true, putL, appN, appX, appC, Eng.Fi, reduceCtorEq, exists_eq_left', exists_eq_left, if_true, if_false, List.replicate, Nat.reduceAdd, Nat.reduceSub, Nat.reduceMul, Nat.reduceLeDiff, Nat.reduceLT, Nat.reduceEqDiff]
  refine Cor.lp (addC_good g_moveTicks (addC_good g_lit (noC_good _))) (noHx_good _) hm (S107 o l) (fun p => (p.1 ≤ l.length ∧ 0 ≤ p.2.1 ∧ p.2.1 ≤ p.1 * 450) ∧ drR p.2.2 ∧ tcG o 0 o.hd.home l = tcG o p.2.1 p.2.2 (l.drop p.1)) (fun p => l.length - p.1) (a := (0, 0, o.hd.home)) ⟨⟨Nat.zero_le _, by simp, by simp⟩, hz.1.1.1, rfl⟩ (Wkn.to ⟨0, [(1, 0)], [0], 1, [2, 6, 7, 15, 16, 17]⟩ rfl rfl (by simp [Wk.st, keepT, memN, Wk.fate, Wk.fate0, assoc, getE, Wk.hp, ABlk.sub, sub1, subs, free_Se, free_Dr, free_I, S107])) ?_
  rintro f ⟨i, t, d⟩ ⟨⟨hi, ht1, ht2⟩, hd, hf⟩ go
  simp only at hi ht1 ht2 hd hf
  rcases Nat.lt_or_ge i l.length with hlt | hlt
  · have e1 : decide ((i : Int) < (l.length : Int)) = true := lt_t hlt
    have e2 : (l.map eI)[i]? = some (eI l[i]) := get_e eI l hlt
    have e3 : IntKind.wrap .i64 ((i : Int) + 1) = ((i + 1 : Nat) : Int) := suc_w (by omega)
    have hk := hlk l[i] (by simp)
    rw [List.drop_eq_getElem_cons hlt, tcG] at hf
    generalize l[i] = k at *
    have hkn : k.toNat < o.ds.length := by omega
    have e5 : (o.ds.map eDr)[k.toNat]? = some (eDr o.ds[k.toNat]) := get_e eDr o.ds hkn
    have k0 : (0 ≤ k) = True := by simp only [hk.1]
    have hxd := hds o.ds[k.toNat] (by simp)
    rw [List.getElem?_eq_getElem hkn] at hf
    generalize o.ds[k.toNat] = x at *
    simp only at hf
    have yl := x_lit o.hd d x (by simp only [eq_iff_iff, iff_true]; exact ⟨hres, hd, hxd⟩)
    have hmb : mvB o.hd d x := ⟨⟨hz.1.1.2.1, hz.1.1.2.2⟩, hd, hxd⟩
    have ym := x_moveTicks o.hd d x (by simp only [hmb])
    have hb := mvT_bd hmb
    have tp : ((i + 1 : Nat) : Int) * 450 = (i : Int) * 450 + 450 := by omega
    have w1 : IntKind.wrap .i64 (t + mvT o.hd d x) = t + mvT o.hd d x := wrap64 (by omega) (by omega)
    cases hx : litL o.hd d x with
    | some q =>
      rw [hx] at yl hf
      simp only at hf
      simp only [litV] at yl
      rw [hf]
      simp +contextual -implicitDefEqProofs (maxSteps := 2000000) only [S107, e1, e2, e3, k0, e5, yl, tcV, ruB, rh_no, Int.reduceLT, Int.reduceLE, Int.reduceAdd, Int.reduceSub, Int.reduceMul, Int.reduceNeg, Int.reduceToNat, Int.reduceEq, Int.reduceNe, Int.reduceTDiv, Int.reduceTMod, implies_true, putL, appN, appX, appC, Eng.Fi, reduceCtorEq, exists_eq_left', exists_eq_left, if_true, if_false, List.replicate, Nat.reduceAdd, Nat.reduceSub, Nat.reduceMul, Nat.reduceLeDiff, Nat.reduceLT, Nat.reduceEqDiff]
    | none =>
      rw [hx] at yl hf
      simp only at hf
      simp only [litV] at yl
      simp +contextual -implicitDefEqProofs (maxSteps := 2000000) only [S107, e1, e2, e3, k0, e5, yl, ym, w1, ruB, rh_no, Int.reduceLT, Int.reduceLE, Int.reduceAdd, Int.reduceSub, Int.reduceMul, Int.reduceNeg, Int.reduceToNat, Int.reduceEq, Int.reduceNe, Int.reduceTDiv, Int.reduceTMod, implies_true, putL, appN, appX, appC, Eng.Fi, reduceCtorEq, exists_eq_left', exists_eq_left, if_true, if_false, List.replicate, Nat.reduceAdd, Nat.reduceSub, Nat.reduceMul, Nat.reduceLeDiff, Nat.reduceLT, Nat.reduceEqDiff]
      exact go _ (i + 1, t + mvT o.hd d x, x) ⟨⟨hlt, by simp only; omega, by simp only; omega⟩, hxd, hf⟩ (by simp only; omega) (Wkn.to ⟨0, [(0, 0)], [], 1, [2, 6, 7, 15, 16, 17]⟩ rfl rfl (by simp [Wk.st, keepT, memN, Wk.fate, Wk.fate0, assoc, getE, Wk.hp, ABlk.sub, sub1, subs, free_Se, free_Dr, free_I, S107]))
  · have e1 : decide ((i : Int) < (l.length : Int)) = false := lt_f hlt
    rw [List.drop_eq_nil_of_le hlt, tcG] at hf
    rw [hf]
    simp +contextual -implicitDefEqProofs (maxSteps := 2000000) only [S107, e1, tcV, ruB, rh_no, Int.reduceLT, Int.reduceLE, Int.reduceAdd, Int.reduceSub, Int.reduceMul, Int.reduceNeg, Int.reduceToNat, Int.reduceEq, Int.reduceNe, Int.reduceTDiv, Int.reduceTMod, implies_true, putL, appN, appX, appC, Eng.Fi, reduceCtorEq, exists_eq_left', exists_eq_left, if_true, if_false, List.replicate, Nat.reduceAdd, Nat.reduceSub, Nat.reduceMul, Nat.reduceLeDiff, Nat.reduceLT, Nat.reduceEqDiff]
theorem map_inj {α : Type} {e : α → AV} (h : ∀ x y, e x = e y → x = y) : ∀ (l m : List α), l.map e = m.map e → l = m
  | [], [], _ => rfl
  | [], _ :: _, hh => by simp at hh
  | _ :: _, [], hh => by simp at hh
  | x :: l, y :: m, hh => by
    simp only [List.map_cons, List.cons.injEq] at hh
    rw [h x y hh.1, map_inj h l m hh.2]
theorem eDr_inj (x y : Dr) (h : eDr x = eDr y) : x = y := Option.some.inj (by rw [← dDr_e x, ← dDr_e y]; exact congrArg dDr h)
theorem eSe_inj (x y : Se) (h : eSe x = eSe y) : x = y := Option.some.inj (by rw [← dSe_e x, ← dSe_e y]; exact congrArg dSe h)
theorem eOd_inj (x y : Od) (h : eOd x = eOd y) : x = y := by
  obtain ⟨⟨⟨a1, a2⟩, a3, a4, a5, a6, a7⟩, a8⟩ := x
  obtain ⟨⟨⟨b1, b2⟩, b3, b4, b5, b6, b7⟩, b8⟩ := y
  simp only [AV.agg.injEq, List.cons.injEq, AV.int.injEq, true_and, AV.vs.injEq, and_true] at h
  obtain ⟨rfl, rfl, rfl, rfl, rfl, rfl, h7, h8⟩ := h
  rw [map_inj eSe_inj _ _ h7, map_inj eDr_inj _ _ h8]
noncomputable def onOd := onI eOd
theorem onOd_e (o : Od) (g : Od → Option AV) : onOd (eOd o) g = g o := onI_e eOd_inj o g
theorem onOd_inv {v : AV} {g : Od → Option AV} {u : AV} (h : onOd v g = some u) : ∃ x, v = eOd x ∧ g x = some u := onI_inv h
instance (o : Od) : Decidable (odR o) := by unfold odR; infer_instance
def tkB (o : Od) (l : List Int) : Prop := odR o ∧ l.length ≤ 6 ∧ ∀ k ∈ l, 0 ≤ k ∧ k < o.ds.length
instance (o : Od) (l : List Int) : Decidable (tkB o l) := by unfold tkB; infer_instance
theorem k_ticks (o : Od) (l : List Int) (h : tkB o l) : FOk P 107 [eOd o, .vs (l.map eI)] (tcV (tcG o 0 o.hd.home l)) := k_ticks0 o l h.1 h.2
def opE1 (h : Hd) (l : List Dr) : Int := firstE [hdE h, unl (0 < (l.length : Int)) 10, unl ((l.length : Int) ≤ 6) 8]
def opE2 : Int → List Dr → Int
  | e, [] => e
  | e, d :: r => opE2 (firstE [e, drE d]) r
def opE (h : Hd) (l : List Dr) : Int := opE2 (opE1 h l) l
def S104 (h : Hd) (l : List Dr) (p : Nat × Int) : AState := ⟨[.any, .vs (l.map eDr), .vp [eHd h] 0 0, .any, .ptr 0 8 0 0, .any, I p.2, .any, .any, .any, .any, .any, .any, .any, .any, .any, .any, .any, .any, .any, .any, .vs (l.map eDr), I l.length, I p.1, .any, .any, .any, .any, .any, .any, .any, .any, .any, .any, .any, .any, .any], [⟨0, 0, .rows 142 8 [.agg [I 0, I 0, I 0, I 0, I 0, I 0, .nilslice, .nilslice]]⟩], 1⟩
theorem k_openOrder (h : Hd) (l : List Dr) (hhl : h.res.length ≤ 1099511627776 ∧ l.length ≤ 1099511627776) : FOk P 104 [eHd h, .vs (l.map eDr)] (.tup [eOd ⟨h, l⟩, I (opE h l)]) := by
  obtain ⟨hh, hl⟩ := hhl
  have yh := x_headErr h (by simp only [hh])
  refine c104.fok (by simp only [free_Hs, subs, sub1, free_Se, free_Dr]) (Cor.run (addC_good g_directionErr (addC_good g_first (addC_good g_unless (addC_good g_headErr (noC_good _))))) (noHx_good _) hm ?_)
  simp +contextual -implicitDefEqProofs (maxSteps := 2000000) only [bg_eq, a104, yh, x_unless, x_first, y_first, List.length_map, ruB, rh_no, Int.reduceLT, Int.reduceLE, Int.reduceAdd, Int.reduceSub, Int.reduceMul, Int.reduceNeg, Int.reduceToNat, Int.reduceEq, Int.reduceNe, Int.reduceTDiv, Int.reduceTMod, implies_true, putL, appN, appX, appC, Eng.Fi, reduceCtorEq, exists_eq_left', exists_eq_left, if_true, if_false, List.replicate, Nat.reduceAdd, Nat.reduceSub, Nat.reduceMul, Nat.reduceLeDiff, Nat.reduceLT, Nat.reduceEqDiff]
  refine Cor.lp (addC_good g_directionErr (addC_good g_first (addC_good g_unless (addC_good g_headErr (noC_good _))))) (noHx_good _) hm (S104 h l) (fun p => p.1 ≤ l.length ∧ opE h l = opE2 p.2 (l.drop p.1)) (fun p => l.length - p.1) (a := (0, opE1 h l)) ⟨Nat.zero_le _, rfl⟩ (Wkn.to ⟨0, [(1, 0)], [0], 1, [1, 2, 4, 6, 21, 22, 23]⟩ rfl rfl (by simp [Wk.st, keepT, memN, Wk.fate, Wk.fate0, assoc, getE, Wk.hp, ABlk.sub, sub1, subs, free_Se, free_Dr, S104, opE1])) ?_
  rintro f ⟨i, e⟩ ⟨hi, hf⟩ go
  simp only at hi hf
  rcases Nat.lt_or_ge i l.length with hlt | hlt
  · have e1 : decide ((i : Int) < (l.length : Int)) = true := lt_t hlt
    have e2 : (l.map eDr)[i]? = some (eDr l[i]) := get_e eDr l hlt
    have e3 : IntKind.wrap .i64 ((i : Int) + 1) = ((i + 1 : Nat) : Int) := suc_w (by omega)
    rw [List.drop_eq_getElem_cons hlt, opE2] at hf
    generalize l[i] = d at *
    have yd := x_directionErr d.az d.el
    simp +contextual -implicitDefEqProofs (maxSteps := 2000000) only [S104, e1, e2, e3, yd, x_first, y_first, ruB, rh_no, Int.reduceLT, Int.reduceLE, Int.reduceAdd, Int.reduceSub, Int.reduceMul, Int.reduceNeg, Int.reduceToNat, Int.reduceEq, Int.reduceNe, Int.reduceTDiv, Int.reduceTMod, implies_true, putL, appN, appX, appC, Eng.Fi, reduceCtorEq, exists_eq_left', exists_eq_left, if_true, if_false, List.replicate, Nat.reduceAdd, Nat.reduceSub, Nat.reduceMul, Nat.reduceLeDiff, Nat.reduceLT, Nat.reduceEqDiff]
    exact go _ (i + 1, firstE [e, drE d]) ⟨hlt, hf⟩ (by simp only; omega) (Wkn.to ⟨0, [(0, 0)], [], 1, [1, 2, 4, 6, 21, 22, 23]⟩ rfl rfl (by simp [Wk.st, keepT, memN, Wk.fate, Wk.fate0, assoc, getE, Wk.hp, ABlk.sub, sub1, subs, free_Se, free_Dr, S104, opE1]))
  · have e1 : decide ((i : Int) < (l.length : Int)) = false := lt_f hlt
    rw [List.drop_eq_nil_of_le hlt, opE2] at hf
    rw [hf]
    simp +contextual -implicitDefEqProofs (maxSteps := 2000000) only [S104, e1, free_Se, free_Dr, ruB, rh_no, Int.reduceLT, Int.reduceLE, Int.reduceAdd, Int.reduceSub, Int.reduceMul, Int.reduceNeg, Int.reduceToNat, Int.reduceEq, Int.reduceNe, Int.reduceTDiv, Int.reduceTMod, implies_true, putL, appN, appX, appC, Eng.Fi, reduceCtorEq, exists_eq_left', exists_eq_left, if_true, if_false, List.replicate, Nat.reduceAdd, Nat.reduceSub, Nat.reduceMul, Nat.reduceLeDiff, Nat.reduceLT, Nat.reduceEqDiff]
def cf_openOrder : List AV → Option AV
  | [h_v, .vs l_v] => onH h_v fun h => onL dDr l_v fun l => if h.res.length ≤ 1099511627776 ∧ l.length ≤ 1099511627776 then some (.tup [eOd ⟨h, l⟩, I (opE h l)]) else none
  | _ => none
theorem g_openOrder : Fn P 104 cf_openOrder := fun args v hh => by
  unfold cf_openOrder at hh; split at hh
  · obtain ⟨h, rfl, hh1⟩ := onH_inv hh
    obtain ⟨l, rfl, hh2⟩ := onL_inv dDr_inv hh1
    split at hh2
    · rename_i hc; have hk := Option.some.inj hh2; subst hk; exact k_openOrder _ _ hc
    · cases hh2
  · cases hh
theorem x_openOrder (h : Hd) (l : List Dr) (hc : (h.res.length ≤ 1099511627776 ∧ l.length ≤ 1099511627776) = True) : cf_openOrder [eHd h, .vs (l.map eDr)] = some (.tup [eOd ⟨h, l⟩, I (opE h l)]) := by
  simp only [cf_openOrder, onH_e, onL_map dDr_e]
  exact if_pos (by rw [hc]; trivial)
theorem opE2_z : ∀ {e : Int} {l : List Dr}, opE2 e l = 0 → e = 0 ∧ ∀ d ∈ l, drR d
  | e, [], h => ⟨h, by simp⟩
  | e, d :: r, h => by
    obtain ⟨h1, h2⟩ := opE2_z (l := r) h
    refine ⟨firstE_zero h1 e (by simp), fun x hx => ?_⟩
    rcases List.mem_cons.1 hx with rfl | hx
    · exact drE_zero (firstE_zero h1 (drE x) (by simp))
    · exact h2 x hx
theorem opE_z {h : Hd} {l : List Dr} (hz : opE h l = 0) : odR ⟨h, l⟩ ∧ 0 < l.length := by
  obtain ⟨h1, h2⟩ := opE2_z hz
  unfold opE1 at h1
  have h3 := firstE_zero h1 (hdE h) (by simp)
  have h4 := unl_zero (firstE_zero h1 (unl (0 < (l.length : Int)) 10) (by simp)) (by decide)
  have h5 := unl_zero (firstE_zero h1 (unl ((l.length : Int) ≤ 6) 8) (by simp)) (by decide)
  exact ⟨⟨⟨h3, by simp only; omega⟩, h2⟩, by omega⟩
theorem sufP : chkF Try.prog 105 15 12 = true := by kernel_rfl
end Sc
