import Derived.Test.YtabkbhpeeefmgabEngS9
import Derived.Test.YtabkbhpeeefmgabW913
open Go Go.Proofs Eng
set_option maxRecDepth 100000
set_option linter.unusedSimpArgs false
set_option linter.unusedVariables false
def a7 : AC := .seq (.ops false [] [⟨some 2, .p (.mov), [.c (.bool false)], none⟩]) (.seq (.seq (.ops false [] [⟨some 4, .p (.mov), [.t 0], none⟩, ⟨some 5, .p (.lenS), [.t 4], none⟩, ⟨some 6, .p (.binI .gtr), [.t 5, .c (.int .i64 8)], none⟩]) (.cond (.t 6) (.seq (.ops false [] [⟨some 2, .p (.mov), [.c (.bool false)], none⟩]) (.ret)) (.skip))) (.seq (.seq (.ops false [] [⟨some 3, .p (.mov), [.c (.int .i64 0)], none⟩]) (.block 0 (.loop (.seq (.seq (.ops false [] [⟨some 7, .p (.mov), [.t 3], none⟩, ⟨some 8, .p (.mov), [.t 0], none⟩, ⟨some 9, .p (.lenS), [.t 8], none⟩, ⟨some 10, .p (.binI .lss), [.t 7, .t 9], none⟩]) (.cond (.t 10) (.skip) (.exit 0))) (.seq (.block 1 (.seq (.ops false [] [⟨some 13, .p (.mov), [.t 0], none⟩, ⟨some 14, .p (.mov), [.t 3], none⟩, ⟨some 15, .p (.iaddrS 1), [.t 13, .t 14], none⟩, ⟨some 16, .load 1 false, [.t 15], none⟩, ⟨some 17, .p (.lenS), [.t 16], none⟩, ⟨some 18, .p (.binI .gtr), [.t 17, .c (.int .i64 8)], none⟩]) (.cond (.t 18) (.seq (.ops false [] [⟨some 2, .p (.mov), [.c (.bool false)], none⟩]) (.ret)) (.skip)))) (.ops false [] [⟨some 11, .p (.mov), [.t 3], none⟩, ⟨some 12, .p (.binI .add), [.t 11, .c (.int .i64 1)], none⟩, ⟨some 3, .p (.mov), [.t 12], none⟩])))))) (.seq (.ops false [] [⟨some 19, .p (.mov), [.t 0], none⟩, ⟨some 20, .call 21, [.t 19], none⟩, ⟨some 21, .p (.binI .neq), [.t 20, .c (.int .i64 0)], none⟩, ⟨some 22, .p (.mov), [.t 21], none⟩, ⟨some 23, .p (.mov), [.t 0], some (22, false)⟩, ⟨some 24, .p (.lenS), [.t 23], some (22, false)⟩, ⟨some 25, .p (.binI .leq), [.t 24, .c (.int .i64 5)], some (22, false)⟩, ⟨some 26, .p (.pick), [.t 22, .c (.bool true), .t 25], none⟩, ⟨some 2, .p (.mov), [.t 26], none⟩]) (.ret))))
theorem c7 : FnC Try.prog 7 27 a7 [.tmp 2] := ⟨Try.call7, _, _, Try.func7, rfl, by kernel_rfl, by kernel_rfl, rfl⟩
def a9 : AC := .seq (.ops false [] [⟨some 2, .p (.mov), [.c (.nilslice)], none⟩]) (.seq (.ops false [] [⟨some 3, .p (.mov), [.c (.nilslice)], none⟩]) (.seq (.seq (.ops false [] [⟨some 4, .p (.mov), [.c (.int .i64 0)], none⟩]) (.block 0 (.loop (.seq (.seq (.ops false [] [⟨some 5, .p (.mov), [.t 4], none⟩, ⟨some 6, .p (.mov), [.t 0], none⟩, ⟨some 7, .p (.lenS), [.t 6], none⟩, ⟨some 8, .p (.binI .lss), [.t 5, .t 7], none⟩]) (.cond (.t 8) (.skip) (.exit 0))) (.seq (.block 1 (.ops false [] [⟨some 11, .p (.mov), [.t 3], none⟩, ⟨some 12, .p (.mov), [.t 0], none⟩, ⟨some 13, .p (.mov), [.t 4], none⟩, ⟨some 14, .p (.iaddrS 1), [.t 12, .t 13], none⟩, ⟨some 15, .load 1 false, [.t 14], none⟩, ⟨some 16, .call 48, [.t 15], none⟩, ⟨some 17, .fbs 1, [.t 16], none⟩, ⟨some 18, .app 23 1 24, [.t 11, .t 17], none⟩, ⟨some 3, .p (.mov), [.t 18], none⟩])) (.ops false [] [⟨some 9, .p (.mov), [.t 4], none⟩, ⟨some 10, .p (.binI .add), [.t 9, .c (.int .i64 1)], none⟩, ⟨some 4, .p (.mov), [.t 10], none⟩])))))) (.seq (.ops false [] [⟨some 19, .p (.mov), [.t 3], none⟩, ⟨some 2, .p (.mov), [.t 19], none⟩]) (.ret))))
theorem c9 : FnC Try.prog 9 20 a9 [.tmp 2] := ⟨Try.call9, _, _, Try.func9, rfl, by kernel_rfl, by kernel_rfl, rfl⟩
def a24 : AC := .seq (.ops false [] [⟨some 2, .p (.mov), [.c (.nilslice)], none⟩, ⟨some 3, .p (.mov), [.c (.int .i64 0)], none⟩]) (.seq (.ops false [] [⟨some 11, .p (.mov), [.t 0], none⟩, ⟨some 12, .call 42, [.t 11], none⟩, ⟨some 10, .p (.mov), [.t 12], none⟩, ⟨some 13, .p (.ext 0), [.t 10], none⟩, ⟨some 14, .p (.ext 1), [.t 10], none⟩, ⟨some 4, .p (.mov), [.t 13], none⟩, ⟨some 5, .p (.mov), [.t 14], none⟩]) (.seq (.seq (.ops false [] [⟨some 15, .p (.mov), [.t 5], none⟩, ⟨some 16, .p (.binI .neq), [.t 15, .c (.int .i64 0)], none⟩]) (.cond (.t 16) (.seq (.ops false [] [⟨some 17, .p (.mov), [.t 5], none⟩, ⟨some 2, .p (.mov), [.c (.nilslice)], none⟩, ⟨some 3, .p (.mov), [.t 17], none⟩]) (.ret)) (.skip))) (.seq (.ops false [] [⟨some 19, .p (.mov), [.t 4], none⟩, ⟨some 20, .call 59, [.t 19], none⟩, ⟨some 18, .p (.mov), [.t 20], none⟩, ⟨some 21, .p (.ext 0), [.t 18], none⟩, ⟨some 22, .p (.ext 1), [.t 18], none⟩, ⟨some 6, .alloc 22 1 [.nilslice], [], none⟩, ⟨none, .store 1 false, [.t 6, .t 21], none⟩, ⟨some 7, .p (.mov), [.t 22], none⟩]) (.seq (.ops false [] [⟨some 8, .p (.mov), [.c (.nilslice)], none⟩]) (.seq (.seq (.ops false [] [⟨some 23, .p (.mov), [.t 4], none⟩, ⟨some 24, .p (.lenS), [.t 23], none⟩, ⟨some 25, .p (.mov), [.c (.int .i64 0)], none⟩]) (.block 0 (.loop (.seq (.ops false [] [⟨some 26, .p (.binI .lss), [.t 25, .t 24], none⟩]) (.seq (.cond (.t 26) (.skip) (.exit 0)) (.seq (.block 1 (.seq (.ops false [] [⟨some 27, .p (.mov), [.t 25], none⟩, ⟨some 9, .alloc 3 1 [.int .i64 0], [], none⟩, ⟨none, .store 1 false, [.t 9, .t 27], none⟩]) (.seq (.ops false [] [⟨some 28, .load 1 false, [.t 6], none⟩, ⟨some 29, .p (.mkfn 61 0), [.t 9, .t 6], none⟩, ⟨some 30, .call 60, [.t 28, .t 29], none⟩, ⟨some 31, .p (.notB), [.t 30], none⟩]) (.cond (.t 31) (.ops false [] [⟨some 32, .p (.mov), [.t 8], none⟩, ⟨some 33, .load 1 false, [.t 9], none⟩, ⟨some 34, .fbs 1, [.t 33], none⟩, ⟨some 35, .app 3 1 8, [.t 32, .t 34], none⟩, ⟨some 8, .p (.mov), [.t 35], none⟩]) (.skip))))) (.ops false [] [⟨some 36, .p (.binI .add), [.t 25, .c (.int .i64 1)], none⟩, ⟨some 25, .p (.mov), [.t 36], none⟩]))))))) (.seq (.ops false [] [⟨some 37, .p (.mov), [.t 8], none⟩, ⟨some 2, .p (.mov), [.t 37], none⟩, ⟨some 3, .p (.mov), [.c (.int .i64 0)], none⟩]) (.ret)))))))
theorem c24 : FnC Try.prog 24 38 a24 [.tmp 2, .tmp 3] := ⟨Try.call24, _, _, Try.func24, rfl, by kernel_rfl, by kernel_rfl, rfl⟩
namespace Wa
def ceG (b : List L) (n : Nat) : L := ((List.range n).filter fun k => decide (¬ neP k (b.headD []) b)).map fun k : Nat => (k : Int)
def ceL (m : List L) : L := ceG (chV m).1 m.length
def ceV (m : List L) : AV := if (cmV m).2 = 0 then .tup [.vs ((ceL m).map eI), I 0] else .tup [.vs [], I (cmV m).2]
theorem ceG_s (b : List L) (n : Nat) : ceG b (n + 1) = ceG b n ++ (if neP n (b.headD []) b then [] else [(n : Int)]) := by
  unfold ceG
  generalize b.headD [] = q
  rw [List.range_succ, List.filter_append, List.map_append]
  congr 1
  split
  · rename_i h; simp [h]
  · rename_i h; simp [h]
theorem ceG_len (b : List L) : ∀ n, (ceG b n).length ≤ n
  | 0 => by simp [ceG]
  | n + 1 => by
    have := ceG_len b n
    rw [ceG_s, List.length_append]
    split <;> simp <;> omega
def S_c0 (m b : List L) : AState := ⟨[.any, .any, .any, .any, .vs (m.map eL), .any, .vp [.vs (b.map eL)] 0 0, .any, .any, .any, .any, .any, .any, .any, .any, .any, .any, .any, .any, .any, .any, .any, .any, .any, .any, .any, .any, .any, .any, .any, .any, .any, .any, .any, .any, .any, .any, .any], [], 0⟩
def S_ce (b : List L) (N : Nat) (q : Nat × L) : AState := ⟨[.any, .any, .any, .any, .any, .any, .vp [.vs (b.map eL)] 0 0, .any, gA 0 1 (q.2.map eI), .any, .any, .any, .any, .any, .any, .any, .any, .any, .any, .any, .any, .any, .any, .any, I N, I q.1, .any, .any, .any, .any, .any, .any, .any, .any, .any, .any, .any, .any], gH 0 3 1 (q.2.map eI), 1⟩
def S_ck (b : List L) (N : Nat) (q : Nat × L) : AState := ⟨[.any, .any, .any, .any, .any, .any, .vp [.vs (b.map eL)] 0 0, .any, gA 0 1 (q.2.map eI), .vp [I q.1] 0 0, .any, .any, .any, .any, .any, .any, .any, .any, .any, .any, .any, .any, .any, .any, I N, I q.1, .any, .any, .any, .any, .any, .any, .any, .any, .any, .any, .any, .any], gH 0 3 1 (q.2.map eI), 1⟩
theorem tk_I0 (l : L) : (l.map eI).take l.length = l.map eI := by rw [List.take_of_length_le]; simp
theorem chV_rows {m : List L} (h : (cmV m).2 = 0) : 0 < (chV m).1.length ∧ (chV m).1.length ≤ 46656 ∧ ∀ p ∈ (chV m).1, p.length = m.length := by
  have hn := (cmV_z h).n
  have hne := ch_ne (m := m)
  refine ⟨?_, ?_, fun p hp => ?_⟩
  · cases hc : (chV m).1 with
    | nil => exact absurd hc hne
    | cons a l => simp
  · rw [chV_fil]
    exact Nat.le_trans (List.length_filter_le _ _) (perm_le hn.2)
  · rw [chV_fil] at hp
    exact (perm_mem (N := m.length) m.length [] (by simp) (by simp) p (List.mem_filter.1 hp).1).1
set_option maxHeartbeats 4000000 in
theorem k_CertainIn (m : List L) (hm0 : m.length ≤ 1099511627776 ∧ ∀ r ∈ m, r.length ≤ 1099511627776) : FOk P 24 [.vs (m.map eL)] (ceV m) := by
  have y1 := x_open m (by simp only [eq_iff_iff, iff_true]; exact hm0)
  by_cases h0 : (cmV m).2 = 0
  · rw [ceV, if_pos h0]
    have y2 := x_cheapest m h0
    have hn := (cmV_z h0).n
    have hr := chV_rows h0
    unfold ceL
    generalize chV m = q at *
    obtain ⟨b, c⟩ := q
    simp only at hr y2 ⊢
    obtain ⟨hr1, hr2, hr3⟩ := hr
    have hfl := fun φ => free_L φ b
    have yF : ∀ k : Nat, k < m.length → cf_ContainsFuncL [.vs (b.map eL), .fn 61 [] [.vp [I k] 0 0, .vp [.vs (b.map eL)] 0 0]] = some (.bool (decide (neP k (b.headD []) b))) := fun k hk => by
      have hh : b.headD [] ∈ b := by
        cases b with
        | nil => simp at hr1
        | cons a l => simp
      have := x_ContainsFuncL b (k : Int) b (by
        simp only [eq_iff_iff, iff_true]
        refine ⟨⟨by omega, by omega, hr1, ?_⟩, by omega, fun p hp => ?_⟩
        · rw [hr3 _ hh]; simpa using hk
        · rw [hr3 _ hp]; simpa using hk)
      rwa [Int.toNat_natCast] at this
    refine c24.fok (y := YH P noHx) (by simp only [subs, sub1, free_L]) ?_
    rw [bg_eq, a24]
    refine Cor.seq (Cor.run (addC_good g_ContainsFuncL (addC_good g_cheapest (addC_good g_open (noC_good _)))) (noHx_good _) hm ?_)
    simp +contextual -implicitDefEqProofs (maxSteps := 2000000) only [eThen_normal, ruB, rh_no, Int.reduceLT, Int.reduceLE, Int.reduceAdd, Int.reduceSub, Int.reduceMul, Int.reduceNeg, Int.reduceToNat, Int.reduceEq, Int.reduceNe, Int.reduceTDiv, Int.reduceTMod, implies_true, putL, appN, appX, appC, Eng.Fi, reduceCtorEq, exists_eq_left', exists_eq_left, if_true, if_false, List.replicate, Nat.reduceAdd, Nat.reduceSub, Nat.reduceMul, Nat.reduceLeDiff, Nat.reduceLT, Nat.reduceEqDiff]
    refine Cor.seq (Cor.run (addC_good g_ContainsFuncL (addC_good g_cheapest (addC_good g_open (noC_good _)))) (noHx_good _) hm ?_)
    simp +contextual -implicitDefEqProofs (maxSteps := 2000000) only [y1, eThen_normal, ruB, rh_no, Int.reduceLT, Int.reduceLE, Int.reduceAdd, Int.reduceSub, Int.reduceMul, Int.reduceNeg, Int.reduceToNat, Int.reduceEq, Int.reduceNe, Int.reduceTDiv, Int.reduceTMod, implies_true, putL, appN, appX, appC, Eng.Fi, reduceCtorEq, exists_eq_left', exists_eq_left, if_true, if_false, List.replicate, Nat.reduceAdd, Nat.reduceSub, Nat.reduceMul, Nat.reduceLeDiff, Nat.reduceLT, Nat.reduceEqDiff]
    refine Cor.seq (Cor.run (addC_good g_ContainsFuncL (addC_good g_cheapest (addC_good g_open (noC_good _)))) (noHx_good _) hm ?_)
    simp +contextual -implicitDefEqProofs (maxSteps := 2000000) only [h0, eThen_normal, not_true_eq_false, ruB, rh_no, Int.reduceLT, Int.reduceLE, Int.reduceAdd, Int.reduceSub, Int.reduceMul, Int.reduceNeg, Int.reduceToNat, Int.reduceEq, Int.reduceNe, Int.reduceTDiv, Int.reduceTMod, implies_true, putL, appN, appX, appC, Eng.Fi, reduceCtorEq, exists_eq_left', exists_eq_left, if_true, if_false, List.replicate, Nat.reduceAdd, Nat.reduceSub, Nat.reduceMul, Nat.reduceLeDiff, Nat.reduceLT, Nat.reduceEqDiff]
    refine Cor.seq (Cor.run (addC_good g_ContainsFuncL (addC_good g_cheapest (addC_good g_open (noC_good _)))) (noHx_good _) hm ?_)
    simp +contextual -implicitDefEqProofs (maxSteps := 2000000) only [y2, eThen_normal, rs_nil, rs_t, rs_f, ag_nils, ag_sl, ag_vs, ag_str, ag_ptr, ag_nilp, ag_vp, ag_fun, hfl, ruB, rh_no, Int.reduceLT, Int.reduceLE, Int.reduceAdd, Int.reduceSub, Int.reduceMul, Int.reduceNeg, Int.reduceToNat, Int.reduceEq, Int.reduceNe, Int.reduceTDiv, Int.reduceTMod, implies_true, putL, appN, appX, appC, Eng.Fi, reduceCtorEq, exists_eq_left', exists_eq_left, if_true, if_false, List.replicate, Nat.reduceAdd, Nat.reduceSub, Nat.reduceMul, Nat.reduceLeDiff, Nat.reduceLT, Nat.reduceEqDiff]
    refine Cor.wk (s2 := S_c0 m b) (Wkn.to ⟨0, [], [0], 0, [4, 6]⟩ rfl rfl (by simp [Wk.st, keepT, memN, Wk.fate, Wk.fate0, assoc, getE, Wk.hp, ABlk.sub, sub1, subs, S_c0, free_L])) ?_
    refine Cor.seq (Cor.run (addC_good g_ContainsFuncL (addC_good g_cheapest (addC_good g_open (noC_good _)))) (noHx_good _) hm ?_)
    simp +contextual -implicitDefEqProofs (maxSteps := 2000000) only [S_c0, eThen_normal, ruB, rh_no, Int.reduceLT, Int.reduceLE, Int.reduceAdd, Int.reduceSub, Int.reduceMul, Int.reduceNeg, Int.reduceToNat, Int.reduceEq, Int.reduceNe, Int.reduceTDiv, Int.reduceTMod, implies_true, putL, appN, appX, appC, Eng.Fi, reduceCtorEq, exists_eq_left', exists_eq_left, if_true, if_false, List.replicate, Nat.reduceAdd, Nat.reduceSub, Nat.reduceMul, Nat.reduceLeDiff, Nat.reduceLT, Nat.reduceEqDiff]
    refine Cor.seq (Cor.seq (Cor.run (addC_good g_ContainsFuncL (addC_good g_cheapest (addC_good g_open (noC_good _)))) (noHx_good _) hm ?_))
    simp +contextual -implicitDefEqProofs (maxSteps := 2000000) only [eThen_normal, List.length_map, ruB, rh_no, Int.reduceLT, Int.reduceLE, Int.reduceAdd, Int.reduceSub, Int.reduceMul, Int.reduceNeg, Int.reduceToNat, Int.reduceEq, Int.reduceNe, Int.reduceTDiv, Int.reduceTMod, implies_true, putL, appN, appX, appC, Eng.Fi, reduceCtorEq, exists_eq_left', exists_eq_left, if_true, if_false, List.replicate, Nat.reduceAdd, Nat.reduceSub, Nat.reduceMul, Nat.reduceLeDiff, Nat.reduceLT, Nat.reduceEqDiff]
    refine Cor.block (Cor.loopC (S_ce b m.length) (fun q => q.1 ≤ m.length ∧ q.2 = ceG b q.1) (fun q => m.length - q.1) (a := (0, [])) ?_ ⟨Nat.zero_le _, rfl⟩ (Wkn.to ⟨0, [], [], 1, [6, 8, 24, 25]⟩ rfl rfl (by simp [Wk.st, keepT, memN, Wk.fate, Wk.fate0, assoc, getE, Wk.hp, ABlk.sub, sub1, subs, S_ce, gA, gH, free_L])))
    rintro ⟨k, out⟩ ⟨hk, ho⟩
    simp only at hk ho
    have hol : out.length ≤ k := by rw [ho]; exact ceG_len b k
    have hfo := fun φ => free_I φ out
    rcases Nat.lt_or_ge k m.length with hlt | hge
    · have e1 : ((k : Int) < (m.length : Int)) = True := eq_true (by omega)
      have e3 : IntKind.wrap .i64 ((k : Int) + 1) = ((k + 1 : Nat) : Int) := suc_w (by omega)
      have yk := yF k hlt
      have hs := ceG_s b k
      rw [← ho] at hs
      have m1 : (out.length + 1 ≤ maxLen) = True := mx (by omega)
      have m2 : ((out.length + 1) * 8 ≤ 140737488355328) = True := by simp only [eq_iff_iff, iff_true]; omega
      cases out with
      | nil =>
        simp only [List.map_cons, List.map_nil, subs, List.cons.injEq] at hfo
        simp only [List.length_nil, List.length_cons, Nat.zero_add] at m1 m2
        refine Cor.seq (Cor.run (addC_good g_ContainsFuncL (addC_good g_cheapest (addC_good g_open (noC_good _)))) (noHx_good _) hm ?_)
        simp +contextual -implicitDefEqProofs (maxSteps := 2000000) only [S_ce, gA, gH, e1, eThen_normal, List.map_cons, List.map_nil, List.length_map, ruB, rh_no, Int.reduceLT, Int.reduceLE, Int.reduceAdd, Int.reduceSub, Int.reduceMul, Int.reduceNeg, Int.reduceToNat, Int.reduceEq, Int.reduceNe, Int.reduceTDiv, Int.reduceTMod, implies_true, putL, appN, appX, appC, Eng.Fi, reduceCtorEq, exists_eq_left', exists_eq_left, if_true, if_false, List.replicate, Nat.reduceAdd, Nat.reduceSub, Nat.reduceMul, Nat.reduceLeDiff, Nat.reduceLT, Nat.reduceEqDiff]
        refine Cor.seq (Cor.run (addC_good g_ContainsFuncL (addC_good g_cheapest (addC_good g_open (noC_good _)))) (noHx_good _) hm ?_)
        simp +contextual -implicitDefEqProofs (maxSteps := 2000000) only [eThen_normal, ruB, rh_no, Int.reduceLT, Int.reduceLE, Int.reduceAdd, Int.reduceSub, Int.reduceMul, Int.reduceNeg, Int.reduceToNat, Int.reduceEq, Int.reduceNe, Int.reduceTDiv, Int.reduceTMod, implies_true, putL, appN, appX, appC, Eng.Fi, reduceCtorEq, exists_eq_left', exists_eq_left, if_true, if_false, List.replicate, Nat.reduceAdd, Nat.reduceSub, Nat.reduceMul, Nat.reduceLeDiff, Nat.reduceLT, Nat.reduceEqDiff]
        refine Cor.seq (Cor.block (Cor.seq (Cor.run (addC_good g_ContainsFuncL (addC_good g_cheapest (addC_good g_open (noC_good _)))) (noHx_good _) hm ?_)))
        simp +contextual -implicitDefEqProofs (maxSteps := 2000000) only [eThen_normal, ruB, rh_no, Int.reduceLT, Int.reduceLE, Int.reduceAdd, Int.reduceSub, Int.reduceMul, Int.reduceNeg, Int.reduceToNat, Int.reduceEq, Int.reduceNe, Int.reduceTDiv, Int.reduceTMod, implies_true, putL, appN, appX, appC, Eng.Fi, reduceCtorEq, exists_eq_left', exists_eq_left, if_true, if_false, List.replicate, Nat.reduceAdd, Nat.reduceSub, Nat.reduceMul, Nat.reduceLeDiff, Nat.reduceLT, Nat.reduceEqDiff]
        refine Cor.wk (s2 := S_ck b m.length (k, [])) (Wkn.to ⟨0, [(0, 0)], [1], 1, [6, 8, 9, 24, 25]⟩ rfl rfl (by simp [Wk.st, keepT, memN, Wk.fate, Wk.fate0, assoc, getE, Wk.hp, ABlk.sub, sub1, subs, S_ck, gA, gH, hfo, free_L, free_I])) ?_
        by_cases hc : neP k (b.headD []) b
        · have hc' := eq_true hc
          rw [if_pos hc, List.append_nil] at hs
          refine Cor.run (addC_good g_ContainsFuncL (addC_good g_cheapest (addC_good g_open (noC_good _)))) (noHx_good _) hm ?_
          simp +contextual -implicitDefEqProofs (maxSteps := 2000000) only [S_ck, gA, gH, yk, hc', rs_nil, rs_t, rs_f, ag_nils, ag_sl, ag_vs, ag_str, ag_ptr, ag_nilp, ag_vp, ag_fun, eThen_normal, eBlk_normal, List.length_map, List.map_cons, List.map_nil, not_true_eq_false, ruB, rh_no, Int.reduceLT, Int.reduceLE, Int.reduceAdd, Int.reduceSub, Int.reduceMul, Int.reduceNeg, Int.reduceToNat, Int.reduceEq, Int.reduceNe, Int.reduceTDiv, Int.reduceTMod, implies_true, putL, appN, appX, appC, Eng.Fi, reduceCtorEq, exists_eq_left', exists_eq_left, if_true, if_false, List.replicate, Nat.reduceAdd, Nat.reduceSub, Nat.reduceMul, Nat.reduceLeDiff, Nat.reduceLT, Nat.reduceEqDiff]
          refine Cor.run (addC_good g_ContainsFuncL (addC_good g_cheapest (addC_good g_open (noC_good _)))) (noHx_good _) hm ?_
          simp +contextual -implicitDefEqProofs (maxSteps := 2000000) only [e3, eThen_normal, ruB, rh_no, Int.reduceLT, Int.reduceLE, Int.reduceAdd, Int.reduceSub, Int.reduceMul, Int.reduceNeg, Int.reduceToNat, Int.reduceEq, Int.reduceNe, Int.reduceTDiv, Int.reduceTMod, implies_true, putL, appN, appX, appC, Eng.Fi, reduceCtorEq, exists_eq_left', exists_eq_left, if_true, if_false, List.replicate, Nat.reduceAdd, Nat.reduceSub, Nat.reduceMul, Nat.reduceLeDiff, Nat.reduceLT, Nat.reduceEqDiff]
          exact ⟨(k + 1, []), ⟨hlt, hs.symm⟩, by simp only; omega, Wkn.to ⟨0, [(0, 0)], [], 1, [6, 8, 24, 25]⟩ rfl rfl (by simp [Wk.st, keepT, memN, Wk.fate, Wk.fate0, assoc, getE, Wk.hp, ABlk.sub, sub1, subs, S_ce, gA, gH, hfo, free_L, free_I])⟩
        · have hc' := eq_false hc
          rw [if_neg hc] at hs
          refine Cor.run (addC_good g_ContainsFuncL (addC_good g_cheapest (addC_good g_open (noC_good _)))) (noHx_good _) hm ?_
          simp +contextual -implicitDefEqProofs (maxSteps := 2000000) only [S_ck, gA, gH, yk, hc', rs_nil, rs_t, rs_f, ag_nils, ag_sl, ag_vs, ag_str, ag_ptr, ag_nilp, ag_vp, ag_fun, m1, m2, eThen_normal, eBlk_normal, List.length_map, List.map_cons, List.map_nil, not_false_eq_true, ruB, rh_no, Int.reduceLT, Int.reduceLE, Int.reduceAdd, Int.reduceSub, Int.reduceMul, Int.reduceNeg, Int.reduceToNat, Int.reduceEq, Int.reduceNe, Int.reduceTDiv, Int.reduceTMod, implies_true, putL, appN, appX, appC, Eng.Fi, reduceCtorEq, exists_eq_left', exists_eq_left, if_true, if_false, List.replicate, Nat.reduceAdd, Nat.reduceSub, Nat.reduceMul, Nat.reduceLeDiff, Nat.reduceLT, Nat.reduceEqDiff]
          refine Cor.run (addC_good g_ContainsFuncL (addC_good g_cheapest (addC_good g_open (noC_good _)))) (noHx_good _) hm ?_
          simp +contextual -implicitDefEqProofs (maxSteps := 2000000) only [e3, eThen_normal, ruB, rh_no, Int.reduceLT, Int.reduceLE, Int.reduceAdd, Int.reduceSub, Int.reduceMul, Int.reduceNeg, Int.reduceToNat, Int.reduceEq, Int.reduceNe, Int.reduceTDiv, Int.reduceTMod, implies_true, putL, appN, appX, appC, Eng.Fi, reduceCtorEq, exists_eq_left', exists_eq_left, if_true, if_false, List.replicate, Nat.reduceAdd, Nat.reduceSub, Nat.reduceMul, Nat.reduceLeDiff, Nat.reduceLT, Nat.reduceEqDiff]
          exact ⟨(k + 1, [] ++ [(k : Int)]), ⟨hlt, hs.symm⟩, by simp only; omega, Wkn.to ⟨0, [(1, 0)], [], 1, [6, 8, 24, 25]⟩ rfl rfl (by simp [Wk.st, keepT, memN, Wk.fate, Wk.fate0, assoc, getE, Wk.hp, ABlk.sub, sub1, subs, S_ce, gA, gH, hfo, free_L, free_I, subs_append])⟩
        
      | cons z0 zr =>
        simp only [List.map_cons, List.map_nil, subs, List.cons.injEq] at hfo
        simp only [List.length_nil, List.length_cons, Nat.zero_add] at m1 m2
        refine Cor.seq (Cor.run (addC_good g_ContainsFuncL (addC_good g_cheapest (addC_good g_open (noC_good _)))) (noHx_good _) hm ?_)
        simp +contextual -implicitDefEqProofs (maxSteps := 2000000) only [S_ce, gA, gH, e1, eThen_normal, List.map_cons, List.map_nil, List.length_map, ruB, rh_no, Int.reduceLT, Int.reduceLE, Int.reduceAdd, Int.reduceSub, Int.reduceMul, Int.reduceNeg, Int.reduceToNat, Int.reduceEq, Int.reduceNe, Int.reduceTDiv, Int.reduceTMod, implies_true, putL, appN, appX, appC, Eng.Fi, reduceCtorEq, exists_eq_left', exists_eq_left, if_true, if_false, List.replicate, Nat.reduceAdd, Nat.reduceSub, Nat.reduceMul, Nat.reduceLeDiff, Nat.reduceLT, Nat.reduceEqDiff]
        refine Cor.seq (Cor.run (addC_good g_ContainsFuncL (addC_good g_cheapest (addC_good g_open (noC_good _)))) (noHx_good _) hm ?_)
        simp +contextual -implicitDefEqProofs (maxSteps := 2000000) only [eThen_normal, ruB, rh_no, Int.reduceLT, Int.reduceLE, Int.reduceAdd, Int.reduceSub, Int.reduceMul, Int.reduceNeg, Int.reduceToNat, Int.reduceEq, Int.reduceNe, Int.reduceTDiv, Int.reduceTMod, implies_true, putL, appN, appX, appC, Eng.Fi, reduceCtorEq, exists_eq_left', exists_eq_left, if_true, if_false, List.replicate, Nat.reduceAdd, Nat.reduceSub, Nat.reduceMul, Nat.reduceLeDiff, Nat.reduceLT, Nat.reduceEqDiff]
        refine Cor.seq (Cor.block (Cor.seq (Cor.run (addC_good g_ContainsFuncL (addC_good g_cheapest (addC_good g_open (noC_good _)))) (noHx_good _) hm ?_)))
        simp +contextual -implicitDefEqProofs (maxSteps := 2000000) only [eThen_normal, ruB, rh_no, Int.reduceLT, Int.reduceLE, Int.reduceAdd, Int.reduceSub, Int.reduceMul, Int.reduceNeg, Int.reduceToNat, Int.reduceEq, Int.reduceNe, Int.reduceTDiv, Int.reduceTMod, implies_true, putL, appN, appX, appC, Eng.Fi, reduceCtorEq, exists_eq_left', exists_eq_left, if_true, if_false, List.replicate, Nat.reduceAdd, Nat.reduceSub, Nat.reduceMul, Nat.reduceLeDiff, Nat.reduceLT, Nat.reduceEqDiff]
        refine Cor.wk (s2 := S_ck b m.length (k, (z0 :: zr))) (Wkn.to ⟨0, [(0, 0)], [1], 1, [6, 8, 9, 24, 25]⟩ rfl rfl (by simp [Wk.st, keepT, memN, Wk.fate, Wk.fate0, assoc, getE, Wk.hp, ABlk.sub, sub1, subs, S_ck, gA, gH, hfo, free_L, free_I])) ?_
        by_cases hc : neP k (b.headD []) b
        · have hc' := eq_true hc
          rw [if_pos hc, List.append_nil] at hs
          refine Cor.run (addC_good g_ContainsFuncL (addC_good g_cheapest (addC_good g_open (noC_good _)))) (noHx_good _) hm ?_
          simp +contextual -implicitDefEqProofs (maxSteps := 2000000) only [S_ck, gA, gH, yk, hc', rs_nil, rs_t, rs_f, ag_nils, ag_sl, ag_vs, ag_str, ag_ptr, ag_nilp, ag_vp, ag_fun, eThen_normal, eBlk_normal, List.length_map, List.map_cons, List.map_nil, not_true_eq_false, ruB, rh_no, Int.reduceLT, Int.reduceLE, Int.reduceAdd, Int.reduceSub, Int.reduceMul, Int.reduceNeg, Int.reduceToNat, Int.reduceEq, Int.reduceNe, Int.reduceTDiv, Int.reduceTMod, implies_true, putL, appN, appX, appC, Eng.Fi, reduceCtorEq, exists_eq_left', exists_eq_left, if_true, if_false, List.replicate, Nat.reduceAdd, Nat.reduceSub, Nat.reduceMul, Nat.reduceLeDiff, Nat.reduceLT, Nat.reduceEqDiff]
          refine Cor.run (addC_good g_ContainsFuncL (addC_good g_cheapest (addC_good g_open (noC_good _)))) (noHx_good _) hm ?_
          simp +contextual -implicitDefEqProofs (maxSteps := 2000000) only [e3, eThen_normal, ruB, rh_no, Int.reduceLT, Int.reduceLE, Int.reduceAdd, Int.reduceSub, Int.reduceMul, Int.reduceNeg, Int.reduceToNat, Int.reduceEq, Int.reduceNe, Int.reduceTDiv, Int.reduceTMod, implies_true, putL, appN, appX, appC, Eng.Fi, reduceCtorEq, exists_eq_left', exists_eq_left, if_true, if_false, List.replicate, Nat.reduceAdd, Nat.reduceSub, Nat.reduceMul, Nat.reduceLeDiff, Nat.reduceLT, Nat.reduceEqDiff]
          exact ⟨(k + 1, (z0 :: zr)), ⟨hlt, hs.symm⟩, by simp only; omega, Wkn.to ⟨0, [(0, 0)], [], 1, [6, 8, 24, 25]⟩ rfl rfl (by simp [Wk.st, keepT, memN, Wk.fate, Wk.fate0, assoc, getE, Wk.hp, ABlk.sub, sub1, subs, S_ce, gA, gH, hfo, free_L, free_I])⟩
        · have hc' := eq_false hc
          rw [if_neg hc] at hs
          refine Cor.run (addC_good g_ContainsFuncL (addC_good g_cheapest (addC_good g_open (noC_good _)))) (noHx_good _) hm ?_
          simp +contextual -implicitDefEqProofs (maxSteps := 2000000) only [S_ck, gA, gH, yk, hc', rs_nil, rs_t, rs_f, ag_nils, ag_sl, ag_vs, ag_str, ag_ptr, ag_nilp, ag_vp, ag_fun, m1, m2, eThen_normal, eBlk_normal, List.length_map, List.map_cons, List.map_nil, not_false_eq_true, ruB, rh_no, Int.reduceLT, Int.reduceLE, Int.reduceAdd, Int.reduceSub, Int.reduceMul, Int.reduceNeg, Int.reduceToNat, Int.reduceEq, Int.reduceNe, Int.reduceTDiv, Int.reduceTMod, implies_true, putL, appN, appX, appC, Eng.Fi, reduceCtorEq, exists_eq_left', exists_eq_left, if_true, if_false, List.replicate, Nat.reduceAdd, Nat.reduceSub, Nat.reduceMul, Nat.reduceLeDiff, Nat.reduceLT, Nat.reduceEqDiff]
          refine Cor.run (addC_good g_ContainsFuncL (addC_good g_cheapest (addC_good g_open (noC_good _)))) (noHx_good _) hm ?_
          simp +contextual -implicitDefEqProofs (maxSteps := 2000000) only [e3, eThen_normal, ruB, rh_no, Int.reduceLT, Int.reduceLE, Int.reduceAdd, Int.reduceSub, Int.reduceMul, Int.reduceNeg, Int.reduceToNat, Int.reduceEq, Int.reduceNe, Int.reduceTDiv, Int.reduceTMod, implies_true, putL, appN, appX, appC, Eng.Fi, reduceCtorEq, exists_eq_left', exists_eq_left, if_true, if_false, List.replicate, Nat.reduceAdd, Nat.reduceSub, Nat.reduceMul, Nat.reduceLeDiff, Nat.reduceLT, Nat.reduceEqDiff]
          exact ⟨(k + 1, (z0 :: zr) ++ [(k : Int)]), ⟨hlt, hs.symm⟩, by simp only; omega, Wkn.to ⟨0, [(1, 0)], [], 1, [6, 8, 24, 25]⟩ rfl rfl (by simp [Wk.st, keepT, memN, Wk.fate, Wk.fate0, assoc, getE, Wk.hp, ABlk.sub, sub1, subs, S_ce, gA, gH, hfo, free_L, free_I, subs_append])⟩
        
    · have e1 : ((k : Int) < (m.length : Int)) = False := eq_false (by omega)
      have ek : k = m.length := by omega
      subst ek
      rw [← ho]
      cases out with
      | nil =>
        simp only [List.map_cons, List.map_nil, subs, List.cons.injEq] at hfo
        refine Cor.seq (Cor.run (addC_good g_ContainsFuncL (addC_good g_cheapest (addC_good g_open (noC_good _)))) (noHx_good _) hm ?_)
        simp +contextual -implicitDefEqProofs (maxSteps := 2000000) only [S_ce, gA, gH, e1, eThen_normal, List.map_cons, List.map_nil, List.length_map, ruB, rh_no, Int.reduceLT, Int.reduceLE, Int.reduceAdd, Int.reduceSub, Int.reduceMul, Int.reduceNeg, Int.reduceToNat, Int.reduceEq, Int.reduceNe, Int.reduceTDiv, Int.reduceTMod, implies_true, putL, appN, appX, appC, Eng.Fi, reduceCtorEq, exists_eq_left', exists_eq_left, if_true, if_false, List.replicate, Nat.reduceAdd, Nat.reduceSub, Nat.reduceMul, Nat.reduceLeDiff, Nat.reduceLT, Nat.reduceEqDiff]
        refine Cor.seq (Cor.run (addC_good g_ContainsFuncL (addC_good g_cheapest (addC_good g_open (noC_good _)))) (noHx_good _) hm ?_)
        simp +contextual -implicitDefEqProofs (maxSteps := 2000000) only [eThen_exit, eBlk_exit, eThen_normal, ruB, rh_no, Int.reduceLT, Int.reduceLE, Int.reduceAdd, Int.reduceSub, Int.reduceMul, Int.reduceNeg, Int.reduceToNat, Int.reduceEq, Int.reduceNe, Int.reduceTDiv, Int.reduceTMod, implies_true, putL, appN, appX, appC, Eng.Fi, reduceCtorEq, exists_eq_left', exists_eq_left, if_true, if_false, List.replicate, Nat.reduceAdd, Nat.reduceSub, Nat.reduceMul, Nat.reduceLeDiff, Nat.reduceLT, Nat.reduceEqDiff]
        refine Cor.run (addC_good g_ContainsFuncL (addC_good g_cheapest (addC_good g_open (noC_good _)))) (noHx_good _) hm ?_
        simp +contextual -implicitDefEqProofs (maxSteps := 2000000) only [List.length_map, List.map_cons, List.map_nil, tk_I0, Nat.le_refl, hfo, free_I, ruB, rh_no, Int.reduceLT, Int.reduceLE, Int.reduceAdd, Int.reduceSub, Int.reduceMul, Int.reduceNeg, Int.reduceToNat, Int.reduceEq, Int.reduceNe, Int.reduceTDiv, Int.reduceTMod, implies_true, putL, appN, appX, appC, Eng.Fi, reduceCtorEq, exists_eq_left', exists_eq_left, if_true, if_false, List.replicate, Nat.reduceAdd, Nat.reduceSub, Nat.reduceMul, Nat.reduceLeDiff, Nat.reduceLT, Nat.reduceEqDiff]
        
      | cons z0 zr =>
        simp only [List.map_cons, List.map_nil, subs, List.cons.injEq] at hfo
        refine Cor.seq (Cor.run (addC_good g_ContainsFuncL (addC_good g_cheapest (addC_good g_open (noC_good _)))) (noHx_good _) hm ?_)
        simp +contextual -implicitDefEqProofs (maxSteps := 2000000) only [S_ce, gA, gH, e1, eThen_normal, List.map_cons, List.map_nil, List.length_map, ruB, rh_no, Int.reduceLT, Int.reduceLE, Int.reduceAdd, Int.reduceSub, Int.reduceMul, Int.reduceNeg, Int.reduceToNat, Int.reduceEq, Int.reduceNe, Int.reduceTDiv, Int.reduceTMod, implies_true, putL, appN, appX, appC, Eng.Fi, reduceCtorEq, exists_eq_left', exists_eq_left, if_true, if_false, List.replicate, Nat.reduceAdd, Nat.reduceSub, Nat.reduceMul, Nat.reduceLeDiff, Nat.reduceLT, Nat.reduceEqDiff]
        refine Cor.seq (Cor.run (addC_good g_ContainsFuncL (addC_good g_cheapest (addC_good g_open (noC_good _)))) (noHx_good _) hm ?_)
        simp +contextual -implicitDefEqProofs (maxSteps := 2000000) only [eThen_exit, eBlk_exit, eThen_normal, ruB, rh_no, Int.reduceLT, Int.reduceLE, Int.reduceAdd, Int.reduceSub, Int.reduceMul, Int.reduceNeg, Int.reduceToNat, Int.reduceEq, Int.reduceNe, Int.reduceTDiv, Int.reduceTMod, implies_true, putL, appN, appX, appC, Eng.Fi, reduceCtorEq, exists_eq_left', exists_eq_left, if_true, if_false, List.replicate, Nat.reduceAdd, Nat.reduceSub, Nat.reduceMul, Nat.reduceLeDiff, Nat.reduceLT, Nat.reduceEqDiff]
        refine Cor.run (addC_good g_ContainsFuncL (addC_good g_cheapest (addC_good g_open (noC_good _)))) (noHx_good _) hm ?_
        simp +contextual -implicitDefEqProofs (maxSteps := 2000000) only [List.length_map, List.map_cons, List.map_nil, tk_I0, Nat.le_refl, hfo, free_I, ruB, rh_no, Int.reduceLT, Int.reduceLE, Int.reduceAdd, Int.reduceSub, Int.reduceMul, Int.reduceNeg, Int.reduceToNat, Int.reduceEq, Int.reduceNe, Int.reduceTDiv, Int.reduceTMod, implies_true, putL, appN, appX, appC, Eng.Fi, reduceCtorEq, exists_eq_left', exists_eq_left, if_true, if_false, List.replicate, Nat.reduceAdd, Nat.reduceSub, Nat.reduceMul, Nat.reduceLeDiff, Nat.reduceLT, Nat.reduceEqDiff]
        
  · rw [ceV, if_neg h0]
    refine c24.fok (by simp only [subs, sub1, free_L]) (Cor.run (addC_good g_open (noC_good _)) (noHx_good _) hm ?_)
    simp +contextual -implicitDefEqProofs (maxSteps := 2000000) only [bg_eq, a24, y1, h0, not_false_eq_true, ruB, rh_no, Int.reduceLT, Int.reduceLE, Int.reduceAdd, Int.reduceSub, Int.reduceMul, Int.reduceNeg, Int.reduceToNat, Int.reduceEq, Int.reduceNe, Int.reduceTDiv, Int.reduceTMod, implies_true, putL, appN, appX, appC, Eng.Fi, reduceCtorEq, exists_eq_left', exists_eq_left, if_true, if_false, List.replicate, Nat.reduceAdd, Nat.reduceSub, Nat.reduceMul, Nat.reduceLeDiff, Nat.reduceLT, Nat.reduceEqDiff]
def cf_CertainIn : List AV → Option AV
  | [.vs m_v] => onL dL m_v fun m => if m.length ≤ 1099511627776 ∧ ∀ r ∈ m, r.length ≤ 1099511627776 then some (ceV m) else none
  | _ => none
theorem g_CertainIn : Fn P 24 cf_CertainIn := fun args v hh => by
  unfold cf_CertainIn at hh; split at hh
  · obtain ⟨m, rfl, hh1⟩ := onL_inv dL_inv hh
    split at hh1
    · rename_i hc; have hk := Option.some.inj hh1; subst hk; exact k_CertainIn _ hc
    · cases hh1
  · cases hh
theorem x_CertainIn (m : List L) (hc : (m.length ≤ 1099511627776 ∧ ∀ r ∈ m, r.length ≤ 1099511627776) = True) : cf_CertainIn [.vs (m.map eL)] = some (ceV m) := by
  simp only [cf_CertainIn, onL_map dL_e]
  exact if_pos (by rw [hc]; trivial)
end Wa
open Go Go.Proofs Eng
set_option maxRecDepth 100000
set_option linter.unusedSimpArgs false
set_option linter.unusedVariables false
namespace Wa
def smP (m : List L) : Prop := m.length ≤ 8 ∧ (∀ r ∈ m, r.length ≤ 8) ∧ (¬ (cmV m).2 = 0 ∨ m.length ≤ 5)
instance (m : List L) : Decidable (smP m) := by unfold smP; infer_instance
def S_sm (m : List L) (k : Nat) : AState := ⟨[.vs (m.map eL), .any, .any, I k, .any, .any, .any, .any, .any, .any, .any, .any, .any, .any, .any, .any, .any, .any, .any, .any, .any, .any, .any, .any, .any, .any, .any], [], 0⟩
theorem k_small6 (m : List L) : FOk P 7 [.vs (m.map eL)] (.bool (decide (smP m))) := by
  by_cases h8 : 8 < m.length
  · have h8' : ((8 : Int) < (m.length : Int)) = True := eq_true (by omega)
    have hs : decide (smP m) = false := decide_eq_false fun q => by have := q.1; omega
    rw [hs]
    refine c7.fok (by simp only [subs, sub1, free_L]) (Cor.run (addC_good g_rMatrixErr (noC_good _)) (noHx_good _) hm ?_)
    simp +contextual -implicitDefEqProofs (maxSteps := 2000000) only [bg_eq, a7, List.length_map, h8', ruB, rh_no, Int.reduceLT, Int.reduceLE, Int.reduceAdd, Int.reduceSub, Int.reduceMul, Int.reduceNeg, Int.reduceToNat, Int.reduceEq, Int.reduceNe, Int.reduceTDiv, Int.reduceTMod, implies_true, putL, appN, appX, appC, Eng.Fi, reduceCtorEq, exists_eq_left', exists_eq_left, if_true, if_false, List.replicate, Nat.reduceAdd, Nat.reduceSub, Nat.reduceMul, Nat.reduceLeDiff, Nat.reduceLT, Nat.reduceEqDiff]
  · have h8' : ((8 : Int) < (m.length : Int)) = False := eq_false (by omega)
    refine c7.fok (by simp only [subs, sub1, free_L]) (Cor.run (addC_good g_rMatrixErr (noC_good _)) (noHx_good _) hm ?_)
    simp +contextual -implicitDefEqProofs (maxSteps := 2000000) only [bg_eq, a7, List.length_map, h8', Int.natCast_zero, ruB, rh_no, Int.reduceLT, Int.reduceLE, Int.reduceAdd, Int.reduceSub, Int.reduceMul, Int.reduceNeg, Int.reduceToNat, Int.reduceEq, Int.reduceNe, Int.reduceTDiv, Int.reduceTMod, implies_true, putL, appN, appX, appC, Eng.Fi, reduceCtorEq, exists_eq_left', exists_eq_left, if_true, if_false, List.replicate, Nat.reduceAdd, Nat.reduceSub, Nat.reduceMul, Nat.reduceLeDiff, Nat.reduceLT, Nat.reduceEqDiff]
    refine Cor.lp (addC_good g_rMatrixErr (noC_good _)) (noHx_good _) hm (S_sm m) (fun k => k ≤ m.length ∧ ∀ r ∈ m.take k, r.length ≤ 8) (fun k => m.length - k) (a := 0) ⟨Nat.zero_le _, by simp⟩ (Wkn.keep [0, 3] rfl) ?_
    rintro f k ⟨hk, hf⟩ go
    rcases Nat.lt_or_ge k m.length with h | h
    · have e1 : decide ((k : Int) < (m.length : Int)) = true := lt_t h
      have e2 : (m.map eL)[k]? = some (eL m[k]) := get_e eL m h
      have e3 : IntKind.wrap .i64 ((k : Int) + 1) = ((k + 1 : Nat) : Int) := suc_w (by omega)
      have hmem : m[k] ∈ m := by simp
      have htk := List.take_succ_eq_append_getElem h
      generalize m[k] = r at *
      by_cases c1 : 8 < r.length
      · have c1' : ((8 : Int) < (r.length : Int)) = True := eq_true (by omega)
        have hs : decide (smP m) = false := decide_eq_false fun q => by have := q.2.1 r hmem; omega
        rw [hs]
        simp +contextual -implicitDefEqProofs (maxSteps := 2000000) only [S_sm, e1, e2, e3, c1', List.length_map, ruB, rh_no, Int.reduceLT, Int.reduceLE, Int.reduceAdd, Int.reduceSub, Int.reduceMul, Int.reduceNeg, Int.reduceToNat, Int.reduceEq, Int.reduceNe, Int.reduceTDiv, Int.reduceTMod, implies_true, putL, appN, appX, appC, Eng.Fi, reduceCtorEq, exists_eq_left', exists_eq_left, if_true, if_false, List.replicate, Nat.reduceAdd, Nat.reduceSub, Nat.reduceMul, Nat.reduceLeDiff, Nat.reduceLT, Nat.reduceEqDiff]
      · have c1' : ((8 : Int) < (r.length : Int)) = False := eq_false (by omega)
        simp +contextual -implicitDefEqProofs (maxSteps := 2000000) only [S_sm, e1, e2, e3, c1', List.length_map, ruB, rh_no, Int.reduceLT, Int.reduceLE, Int.reduceAdd, Int.reduceSub, Int.reduceMul, Int.reduceNeg, Int.reduceToNat, Int.reduceEq, Int.reduceNe, Int.reduceTDiv, Int.reduceTMod, implies_true, putL, appN, appX, appC, Eng.Fi, reduceCtorEq, exists_eq_left', exists_eq_left, if_true, if_false, List.replicate, Nat.reduceAdd, Nat.reduceSub, Nat.reduceMul, Nat.reduceLeDiff, Nat.reduceLT, Nat.reduceEqDiff]
        refine go _ (k + 1) ⟨h, fun x hx => ?_⟩ (by omega) (Wkn.keep [0, 3] rfl)
        rw [htk] at hx
        rcases List.mem_append.1 hx with hx | hx
        · exact hf x hx
        · rw [List.mem_singleton.1 hx]; omega
    · have e1 : decide ((k : Int) < (m.length : Int)) = false := lt_f h
      rw [List.take_of_length_le h] at hf
      have hs : decide (smP m) = decide (¬ (cmV m).2 = 0 ∨ (m.length : Int) ≤ 5) := decide_eq_decide.2 ⟨fun q => q.2.2.imp id (fun q => by omega), fun q => ⟨by omega, hf, q.imp id (fun q => by omega)⟩⟩
      have y := x_rMatrixErr m (by simp only [eq_iff_iff, iff_true]; exact ⟨by omega, fun r hr => by have := hf r hr; omega⟩)
      rw [hs]
      simp +contextual -implicitDefEqProofs (maxSteps := 2000000) only [S_sm, e1, y, List.length_map, ruB, rh_no, Int.reduceLT, Int.reduceLE, Int.reduceAdd, Int.reduceSub, Int.reduceMul, Int.reduceNeg, Int.reduceToNat, Int.reduceEq, Int.reduceNe, Int.reduceTDiv, Int.reduceTMod, implies_true, putL, appN, appX, appC, Eng.Fi, reduceCtorEq, exists_eq_left', exists_eq_left, if_true, if_false, List.replicate, Nat.reduceAdd, Nat.reduceSub, Nat.reduceMul, Nat.reduceLeDiff, Nat.reduceLT, Nat.reduceEqDiff]
def cf_small6 : List AV → Option AV
  | [.vs m_v] => onL dL m_v fun m => some (.bool (decide (smP m)))
  | _ => none
theorem g_small6 : Fn P 7 cf_small6 := fun args v hh => by
  unfold cf_small6 at hh; split at hh
  · obtain ⟨m, rfl, hh1⟩ := onL_inv dL_inv hh
    have hk := Option.some.inj hh1; subst hk; exact k_small6 _
  · cases hh
theorem x_small6 (m : List L) : cf_small6 [.vs (m.map eL)] = some (.bool (decide (smP m))) := by
  simp only [cf_small6, onL_map dL_e]
def S_cy (m out : List L) (k : Nat) : AState := ⟨[.vs (m.map eL), .any, .any, gA 0 1 (out.map eL), I k, .any, .any, .any, .any, .any, .any, .any, .any, .any, .any, .any, .any, .any, .any, .any], gH 0 23 1 (out.map eL), 1⟩
theorem k_CopyM0 (m R : List L) (hR : R = m) (hm0 : m.length ≤ 1000 ∧ ∀ r ∈ m, r.length ≤ 1000) : FOk P 9 [.vs (m.map eL)] (.vs (R.map eL)) := by
  obtain ⟨hl, hr⟩ := hm0
  refine c9.fok (by simp only [subs, sub1, free_L]) (Cor.run (addC_good g_CopyInts (noC_good _)) (noHx_good _) hm ?_)
  simp +contextual -implicitDefEqProofs (maxSteps := 2000000) only [bg_eq, a9, Int.natCast_zero, ruB, rh_no, Int.reduceLT, Int.reduceLE, Int.reduceAdd, Int.reduceSub, Int.reduceMul, Int.reduceNeg, Int.reduceToNat, Int.reduceEq, Int.reduceNe, Int.reduceTDiv, Int.reduceTMod, implies_true, putL, appN, appX, appC, Eng.Fi, reduceCtorEq, exists_eq_left', exists_eq_left, if_true, if_false, List.replicate, Nat.reduceAdd, Nat.reduceSub, Nat.reduceMul, Nat.reduceLeDiff, Nat.reduceLT, Nat.reduceEqDiff]
  refine Cor.lp (addC_good g_CopyInts (noC_good _)) (noHx_good _) hm (fun q : Nat × List L => S_cy m q.2 q.1) (fun q => q.1 ≤ m.length ∧ q.2 = m.take q.1) (fun q => m.length - q.1) (a := (0, [])) ⟨Nat.zero_le _, by simp⟩ (Wkn.to ⟨0, [], [], 1, [0, 3, 4]⟩ rfl rfl (by simp [Wk.st, keepT, memN, Wk.fate, Wk.fate0, assoc, getE, Wk.hp, ABlk.sub, sub1, subs, S_cy, gA, gH, free_L])) ?_
  rintro f ⟨k, out⟩ ⟨hk, ho⟩ go
  simp only at hk ho go ⊢
  have hol : out.length ≤ k := by rw [ho]; simp; omega
  have hfo := fun φ => free_L φ out
  rcases Nat.lt_or_ge k m.length with h | h
  · have e1 : decide ((k : Int) < (m.length : Int)) = true := lt_t h
    have e2 : (m.map eL)[k]? = some (eL m[k]) := get_e eL m h
    have e3 : IntKind.wrap .i64 ((k : Int) + 1) = ((k + 1 : Nat) : Int) := suc_w (by omega)
    have y := x_CopyInts m[k] (by simp only [eq_iff_iff, iff_true]; exact hr _ (by simp))
    have hs : m.take (k + 1) = out ++ [m[k]] := by rw [List.take_succ_eq_append_getElem h, ho]
    obtain ⟨r, hre⟩ : ∃ r, m[k] = r := ⟨_, rfl⟩
    rw [hre] at e2 y hs
    have m1 : (out.length + 1 ≤ maxLen) = True := mx (by omega)
    have m2 : ((out.length + 1) * 24 ≤ 140737488355328) = True := by simp only [eq_iff_iff, iff_true]; omega
    cases out with
    | nil =>
      simp only [List.map_cons, List.map_nil, subs, List.cons.injEq] at hfo
      simp only [List.length_nil, List.length_cons, Nat.zero_add] at m1 m2
      simp +contextual -implicitDefEqProofs (maxSteps := 2000000) only [S_cy, gA, gH, e1, e2, e3, y, rs_nil, rs_t, rs_f, ag_nils, ag_sl, ag_vs, ag_str, ag_ptr, ag_nilp, ag_vp, ag_fun, m1, m2, List.length_map, List.map_cons, List.map_nil, ruB, rh_no, Int.reduceLT, Int.reduceLE, Int.reduceAdd, Int.reduceSub, Int.reduceMul, Int.reduceNeg, Int.reduceToNat, Int.reduceEq, Int.reduceNe, Int.reduceTDiv, Int.reduceTMod, implies_true, putL, appN, appX, appC, Eng.Fi, reduceCtorEq, exists_eq_left', exists_eq_left, if_true, if_false, List.replicate, Nat.reduceAdd, Nat.reduceSub, Nat.reduceMul, Nat.reduceLeDiff, Nat.reduceLT, Nat.reduceEqDiff]
      exact go _ (k + 1, [] ++ [r]) ⟨h, hs.symm⟩ (by simp only; omega) (Wkn.to ⟨0, [(1, 0)], [], 1, [0, 3, 4]⟩ rfl rfl (by simp [Wk.st, keepT, memN, Wk.fate, Wk.fate0, assoc, getE, Wk.hp, ABlk.sub, sub1, subs, S_cy, gA, gH, hfo, free_L, free_I, subs_append]))
      
    | cons z0 zr =>
      simp only [List.map_cons, List.map_nil, subs, List.cons.injEq] at hfo
      simp only [List.length_nil, List.length_cons, Nat.zero_add] at m1 m2
      simp +contextual -implicitDefEqProofs (maxSteps := 2000000) only [S_cy, gA, gH, e1, e2, e3, y, rs_nil, rs_t, rs_f, ag_nils, ag_sl, ag_vs, ag_str, ag_ptr, ag_nilp, ag_vp, ag_fun, m1, m2, List.length_map, List.map_cons, List.map_nil, ruB, rh_no, Int.reduceLT, Int.reduceLE, Int.reduceAdd, Int.reduceSub, Int.reduceMul, Int.reduceNeg, Int.reduceToNat, Int.reduceEq, Int.reduceNe, Int.reduceTDiv, Int.reduceTMod, implies_true, putL, appN, appX, appC, Eng.Fi, reduceCtorEq, exists_eq_left', exists_eq_left, if_true, if_false, List.replicate, Nat.reduceAdd, Nat.reduceSub, Nat.reduceMul, Nat.reduceLeDiff, Nat.reduceLT, Nat.reduceEqDiff]
      exact go _ (k + 1, (z0 :: zr) ++ [r]) ⟨h, hs.symm⟩ (by simp only; omega) (Wkn.to ⟨0, [(1, 0)], [], 1, [0, 3, 4]⟩ rfl rfl (by simp [Wk.st, keepT, memN, Wk.fate, Wk.fate0, assoc, getE, Wk.hp, ABlk.sub, sub1, subs, S_cy, gA, gH, hfo, free_L, free_I, subs_append]))
      
  · have e1 : decide ((k : Int) < (m.length : Int)) = false := lt_f h
    rw [List.take_of_length_le h] at ho
    rw [show R = out from hR.trans ho.symm]
    clear hR ho
    cases out with
    | nil =>
      simp only [List.map_cons, List.map_nil, subs, List.cons.injEq] at hfo
      simp +contextual -implicitDefEqProofs (maxSteps := 2000000) only [S_cy, gA, gH, e1, List.length_map, List.map_cons, List.map_nil, tk_L0, Nat.le_refl, hfo, free_L, free_I, ruB, rh_no, Int.reduceLT, Int.reduceLE, Int.reduceAdd, Int.reduceSub, Int.reduceMul, Int.reduceNeg, Int.reduceToNat, Int.reduceEq, Int.reduceNe, Int.reduceTDiv, Int.reduceTMod, implies_true, putL, appN, appX, appC, Eng.Fi, reduceCtorEq, exists_eq_left', exists_eq_left, if_true, if_false, List.replicate, Nat.reduceAdd, Nat.reduceSub, Nat.reduceMul, Nat.reduceLeDiff, Nat.reduceLT, Nat.reduceEqDiff]
      
    | cons z0 zr =>
      simp only [List.map_cons, List.map_nil, subs, List.cons.injEq] at hfo
      simp +contextual -implicitDefEqProofs (maxSteps := 2000000) only [S_cy, gA, gH, e1, List.length_map, List.map_cons, List.map_nil, tk_L0, Nat.le_refl, hfo, free_L, free_I, ruB, rh_no, Int.reduceLT, Int.reduceLE, Int.reduceAdd, Int.reduceSub, Int.reduceMul, Int.reduceNeg, Int.reduceToNat, Int.reduceEq, Int.reduceNe, Int.reduceTDiv, Int.reduceTMod, implies_true, putL, appN, appX, appC, Eng.Fi, reduceCtorEq, exists_eq_left', exists_eq_left, if_true, if_false, List.replicate, Nat.reduceAdd, Nat.reduceSub, Nat.reduceMul, Nat.reduceLeDiff, Nat.reduceLT, Nat.reduceEqDiff]
      
theorem k_CopyMatrix (m : List L) (hm0 : m.length ≤ 1000 ∧ ∀ r ∈ m, r.length ≤ 1000) : FOk P 9 [.vs (m.map eL)] (.vs (m.map eL)) := k_CopyM0 m m rfl hm0
def cf_CopyMatrix : List AV → Option AV
  | [.vs m_v] => onL dL m_v fun m => if m.length ≤ 1000 ∧ ∀ r ∈ m, r.length ≤ 1000 then some (.vs (m.map eL)) else none
  | _ => none
theorem g_CopyMatrix : Fn P 9 cf_CopyMatrix := fun args v hh => by
  unfold cf_CopyMatrix at hh; split at hh
  · obtain ⟨m, rfl, hh1⟩ := onL_inv dL_inv hh
    split at hh1
    · rename_i hc; have hk := Option.some.inj hh1; subst hk; exact k_CopyMatrix _ hc
    · cases hh1
  · cases hh
theorem x_CopyMatrix (m : List L) (hc : (m.length ≤ 1000 ∧ ∀ r ∈ m, r.length ≤ 1000) = True) : cf_CopyMatrix [.vs (m.map eL)] = some (.vs (m.map eL)) := by
  simp only [cf_CopyMatrix, onL_map dL_e]
  exact if_pos (by rw [hc]; trivial)
end Wa
