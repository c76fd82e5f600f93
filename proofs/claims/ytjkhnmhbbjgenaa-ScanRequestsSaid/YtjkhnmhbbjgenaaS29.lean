import Derived.Test.YtjkhnmhbbjgenaaEngS9
import Derived.Test.YtjkhnmhbbjgenaaS28
open Go Go.Proofs Eng
set_option maxRecDepth 100000
set_option linter.unusedSimpArgs false
set_option linter.unusedVariables false
def a22 : AC := .seq (.ops false [] [⟨some 2, .p (.mov), [.c (.nilslice)], none⟩]) (.seq (.ops false [] [⟨some 3, .p (.mov), [.c (.nilslice)], none⟩]) (.seq (.seq (.ops false [] [⟨some 4, .p (.mov), [.c (.int .i64 0)], none⟩]) (.block 0 (.loop (.seq (.seq (.ops false [] [⟨some 9, .p (.mov), [.t 4], none⟩, ⟨some 10, .p (.mov), [.t 0], none⟩, ⟨some 11, .p (.lenS), [.t 10], none⟩, ⟨some 12, .p (.binI .lss), [.t 9, .t 11], none⟩]) (.cond (.t 12) (.skip) (.exit 0))) (.seq (.block 1 (.seq (.ops false [] [⟨some 15, .p (.mov), [.t 0], none⟩, ⟨some 16, .p (.mov), [.t 4], none⟩, ⟨some 17, .p (.iaddrS 8), [.t 15, .t 16], none⟩, ⟨some 18, .load 8 true, [.t 17], none⟩, ⟨some 5, .alloc 73 8 [.agg [.int .i64 0, .int .i64 0, .int .i64 0, .int .i64 0, .int .i64 0, .int .i64 0, .int .i64 0, .nilslice]], [], none⟩, ⟨none, .store 8 true, [.t 5, .t 18], none⟩]) (.seq (.ops false [] [⟨some 19, .p (.faddr 0), [.t 5], none⟩, ⟨some 20, .load 1 false, [.t 19], none⟩]) (.block 2 (.seq (.ops false [] [⟨some 22, .p (.binI .eql), [.t 20, .c (.int .i64 0)], none⟩, ⟨some 21, .p (.mov), [.t 22], none⟩]) (.cond (.t 21) (.ops false [] [⟨some 23, .p (.mov), [.t 3], none⟩, ⟨some 24, .p (.faddr 1), [.t 5], none⟩, ⟨some 25, .load 2 true, [.t 24], none⟩, ⟨some 26, .p (.faddr 5), [.t 5], none⟩, ⟨some 27, .load 1 false, [.t 26], none⟩, ⟨some 28, .p (.build [.int .i64 0, .int .i64 0, .int .i64 0] [(0, 2), (2, 1)]), [.t 25, .t 27], none⟩, ⟨some 29, .fbs 3, [.t 28], none⟩, ⟨some 30, .app 75 3 24, [.t 23, .t 29], none⟩, ⟨some 3, .p (.mov), [.t 30], none⟩]) (.seq (.ops false [] [⟨some 32, .p (.binI .eql), [.t 20, .c (.int .i64 1)], none⟩, ⟨some 31, .p (.mov), [.t 32], none⟩]) (.cond (.t 31) (.seq (.ops false [] [⟨some 6, .p (.mov), [.c (.int .i64 0)], none⟩]) (.block 3 (.loop (.seq (.seq (.ops false [] [⟨some 33, .p (.mov), [.t 6], none⟩, ⟨some 34, .p (.faddr 3), [.t 5], none⟩, ⟨some 35, .load 1 false, [.t 34], none⟩, ⟨some 36, .p (.faddr 1), [.t 5], none⟩, ⟨some 37, .p (.faddr 0), [.t 36], none⟩, ⟨some 38, .load 1 false, [.t 37], none⟩, ⟨some 39, .p (.binI .sub), [.t 35, .t 38], none⟩, ⟨some 40, .call 46, [.t 39, .c (.int .i64 360)], none⟩, ⟨some 41, .p (.binI .leq), [.t 33, .t 40], none⟩]) (.cond (.t 41) (.skip) (.exit 3))) (.seq (.block 4 (.ops true [] [⟨some 46, .p (.mov), [.t 3], none⟩, ⟨some 47, .p (.faddr 1), [.t 5], none⟩, ⟨some 48, .p (.faddr 0), [.t 47], none⟩, ⟨some 49, .load 1 false, [.t 48], none⟩, ⟨some 50, .p (.mov), [.t 6], none⟩, ⟨some 51, .p (.binI .add), [.t 49, .t 50], none⟩, ⟨some 52, .call 46, [.t 51, .c (.int .i64 360)], none⟩, ⟨some 53, .p (.faddr 1), [.t 5], none⟩, ⟨some 54, .p (.faddr 1), [.t 53], none⟩, ⟨some 55, .load 1 false, [.t 54], none⟩, ⟨some 56, .p (.build [.int .i64 0, .int .i64 0] [(0, 1), (1, 1)]), [.t 52, .t 55], none⟩, ⟨some 57, .p (.faddr 5), [.t 5], none⟩, ⟨some 58, .load 1 false, [.t 57], none⟩, ⟨some 59, .p (.build [.int .i64 0, .int .i64 0, .int .i64 0] [(0, 2), (2, 1)]), [.t 56, .t 58], none⟩, ⟨some 60, .fbs 3, [.t 59], none⟩, ⟨some 61, .app 75 3 24, [.t 46, .t 60], none⟩, ⟨some 3, .p (.mov), [.t 61], none⟩])) (.ops false [] [⟨some 42, .p (.mov), [.t 6], none⟩, ⟨some 43, .p (.faddr 4), [.t 5], none⟩, ⟨some 44, .load 1 false, [.t 43], none⟩, ⟨some 45, .p (.binI .add), [.t 42, .t 44], none⟩, ⟨some 6, .p (.mov), [.t 45], none⟩])))))) (.seq (.ops false [] [⟨some 63, .p (.binI .eql), [.t 20, .c (.int .i64 2)], none⟩, ⟨some 62, .p (.mov), [.t 63], none⟩]) (.cond (.t 62) (.seq (.ops false [] [⟨some 64, .p (.faddr 7), [.t 5], none⟩, ⟨some 65, .load 1 false, [.t 64], none⟩, ⟨some 66, .call 22, [.t 65], none⟩, ⟨some 7, .p (.mov), [.t 66], none⟩]) (.seq (.ops false [] [⟨some 8, .p (.mov), [.c (.int .i64 0)], none⟩]) (.block 5 (.loop (.seq (.seq (.ops false [] [⟨some 67, .p (.mov), [.t 8], none⟩, ⟨some 68, .p (.faddr 6), [.t 5], none⟩, ⟨some 69, .load 1 false, [.t 68], none⟩, ⟨some 70, .p (.binI .lss), [.t 67, .t 69], none⟩]) (.cond (.t 70) (.skip) (.exit 5))) (.seq (.block 6 (.ops false [] [⟨some 73, .p (.mov), [.t 3], none⟩, ⟨some 74, .p (.mov), [.t 7], none⟩, ⟨some 75, .app 75 3 24, [.t 73, .t 74], none⟩, ⟨some 3, .p (.mov), [.t 75], none⟩])) (.ops false [] [⟨some 71, .p (.mov), [.t 8], none⟩, ⟨some 72, .p (.binI .add), [.t 71, .c (.int .i64 1)], none⟩, ⟨some 8, .p (.mov), [.t 72], none⟩]))))))) (.skip))))))))))) (.ops false [] [⟨some 13, .p (.mov), [.t 4], none⟩, ⟨some 14, .p (.binI .add), [.t 13, .c (.int .i64 1)], none⟩, ⟨some 4, .p (.mov), [.t 14], none⟩])))))) (.seq (.ops false [] [⟨some 76, .p (.mov), [.t 3], none⟩, ⟨some 2, .p (.mov), [.t 76], none⟩]) (.ret))))
theorem c22 : FnC Try.prog 22 77 a22 [.tmp 2] := ⟨Try.call22, _, _, Try.func22, rfl, by kernel_rfl, by kernel_rfl, rfl⟩
namespace Sc
def oA : List St → AV
  | [] => .nilslice
  | _ :: r => .slice 1 3 0 (r.length + 1)
def oH : List St → List HEnt
  | [] => []
  | x :: r => [⟨1, 1, .rows 75 3 ((x :: r).map eSt)⟩]
def S22a (l : Sps) (p : Nat × List St) : AState := ⟨[.vs (eSps l), .any, .any, oA p.2, I p.1, .any, .any, .any, .any, .any, .any, .any, .any, .any, .any, .any, .any, .any, .any, .any, .any, .any, .any, .any, .any, .any, .any, .any, .any, .any, .any, .any, .any, .any, .any, .any, .any, .any, .any, .any, .any, .any, .any, .any, .any, .any, .any, .any, .any, .any, .any, .any, .any, .any, .any, .any, .any, .any, .any, .any, .any, .any, .any, .any, .any, .any, .any, .any, .any, .any, .any, .any, .any, .any, .any, .any, .any], oH p.2, 2⟩
def S22b (l : Sps) (i : Nat) (s : Sp) (p : Int × List St) : AState := ⟨[.vs (eSps l), .any, .any, oA p.2, I i, .ptr 0 8 0 0, I p.1, .any, .any, .any, .any, .any, .any, .any, .any, .any, .any, .any, .any, .any, .any, .any, .any, .any, .any, .any, .any, .any, .any, .any, .any, .any, .any, .any, .any, .any, .any, .any, .any, .any, .any, .any, .any, .any, .any, .any, .any, .any, .any, .any, .any, .any, .any, .any, .any, .any, .any, .any, .any, .any, .any, .any, .any, .any, .any, .any, .any, .any, .any, .any, .any, .any, .any, .any, .any, .any, .any], oH p.2 ++ [⟨0, 0, .rows 73 8 [eSp s]⟩], 2⟩
def S22c (l : Sps) (i : Nat) (s : Sp) (w : List St) (p : Nat × List St) : AState := ⟨[.vs (eSps l), .any, .any, oA p.2, I i, .ptr 0 8 0 0, .any, .vs (w.map eSt), I p.1, .any, .any, .any, .any, .any, .any, .any, .any, .any, .any, .any, .any, .any, .any, .any, .any, .any, .any, .any, .any, .any, .any, .any, .any, .any, .any, .any, .any, .any, .any, .any, .any, .any, .any, .any, .any, .any, .any, .any, .any, .any, .any, .any, .any, .any, .any, .any, .any, .any, .any, .any, .any, .any, .any, .any, .any, .any, .any, .any, .any, .any, .any, .any, .any, .any, .any, .any, .any], oH p.2 ++ [⟨0, 0, .rows 73 8 [eSp s]⟩], 2⟩
theorem oH_set (o : List St) (k : ABlk) : Eng.setB (oH o) 2 2 k = oH o := setB_free fun e he => by
  cases o with
  | nil => simp [oH] at he
  | cons x r => simp only [oH, List.mem_singleton] at he; subst he; simp
theorem stopsAll_pos {n : Nat} {l : Sps} (h : okP n l) : 0 < (stopsAll n l).length := by
  have hp := okP_pos h
  have hs := (okP_e h).2
  cases l with
  | nil => simp at hp
  | cons u r =>
    have := stopsOf_pos n u (hs u (by simp))
    rw [stopsAll, List.flatMap_cons, List.length_append]
    omega
theorem k_rStopsG (n : Nat) (cs : Ctx) (hcs : Good P cs) (c46 : ∀ a : Int, cs 46 [.int .i64 a, .int .i64 360] = some (.int .i64 (a % 360)))
    (cR : ∀ m b, n = m + 1 → okP m b → (stopsAll m b).length ≤ 1000 → cs 22 [.vs (eSps b)] = some (.vs ((stopsAll m b).map eSt))) (l : Sps) (hok : okP n l) (hlen : (stopsAll n l).length ≤ 1000) :
    FOk P 22 [.vs (eSps l)] (.vs ((stopsAll n l).map eSt)) := by
  obtain ⟨h10, hs⟩ := okP_e hok
  refine c22.fok (by simp only [subs, sub1, free_Sps]) (Cor.run hcs (noHx_good _) hm ?_)
  simp +contextual -implicitDefEqProofs (maxSteps := 2000000) only [bg_eq, a22, eSps_len, ruB, rh_no, Int.reduceLT, Int.reduceLE, Int.reduceAdd, Int.reduceSub, Int.reduceMul, Int.reduceNeg, Int.reduceToNat, Int.reduceEq, Int.reduceNe, Int.reduceTDiv, Int.reduceTMod, implies_true, putL, appN, appX, appC, Eng.Fi, reduceCtorEq, exists_eq_left', exists_eq_left, if_true, if_false, List.replicate, Nat.reduceAdd, Nat.reduceSub, Nat.reduceMul, Nat.reduceLeDiff, Nat.reduceLT, Nat.reduceEqDiff]
  refine Cor.lp hcs (noHx_good _) hm (S22a l) (fun p => p.1 ≤ l.length ∧ stopsAll n l = p.2 ++ stopsAll n (l.drop p.1)) (fun p => l.length - p.1) (a := (0, [])) ⟨Nat.zero_le _, rfl⟩ (Wkn.to ⟨0, [], [], 2, [0, 3, 4]⟩ rfl rfl (by simp [Wk.st, keepT, memN, Wk.fate, Wk.fate0, assoc, getE, Wk.hp, ABlk.sub, sub1, subs, S22a, oA, oH, free_Sps])) ?_
  rintro f ⟨i, o⟩ ⟨hi, hf⟩ go
  simp only at hi hf
  rcases Nat.lt_or_ge i l.length with hlt | hlt
  · have e1 : decide ((i : Int) < (l.length : Int)) = true := lt_t hlt
    have e2 := eSps_get l hlt
    have e3 : IntKind.wrap .i64 ((i : Int) + 1) = ((i + 1 : Nat) : Int) := suc_w (by omega)
    have hse := hs l[i] (by simp)
    rw [List.drop_eq_getElem_cons hlt] at hf
    have hsa : stopsAll n (l[i] :: l.drop (i + 1)) = stopsOf n l[i] ++ stopsAll n (l.drop (i + 1)) := List.flatMap_cons
    rw [hsa] at hf
    clear hsa
    generalize l[i] = s at *
    generalize hrest : stopsAll n (l.drop (i + 1)) = rest at hf
    obtain ⟨k, ⟨az, el⟩, x2, x3, x4, x5, b⟩ := s
    simp only [eSp] at e2
    have fb := fun φ => free_Sps φ b
    by_cases h0 : k = 0
    · have hso : stopsOf n (.mk k ⟨az, el⟩ x2 x3 x4 x5 b) = [⟨az, el, x4⟩] := by
        cases n with
        | zero => simp only [stopsOf, oneS, Sp.k, h0]; rfl
        | succ m => simp only [stopsOf, oneS, Sp.k, h0]; rfl
      rw [hso] at hf
      have hol : o.length + 1 ≤ 1000 := by rw [hf] at hlen; simp only [List.length_append, List.length_cons, List.length_nil] at hlen; omega
      have m1 : (o.length + 1 ≤ maxLen) = True := mx (by omega)
      have m2 : ((o.length + 1) * 24 ≤ 140737488355328) = True := by simp only [eq_iff_iff, iff_true]; omega
      have hfo := fun φ => free_St φ o
      rw [← List.append_assoc] at hf
      subst h0
      cases o with
      | nil =>
        simp only [List.length_nil, List.length_cons, Nat.zero_add] at m1 m2
        simp +contextual -implicitDefEqProofs (maxSteps := 2000000) only [S22a, oA, oH, e1, e2, e3, eSps_len, rs_nil, rs_t, rs_f, ag_nils, ag_sl, ag_vs, ag_str, ag_ptr, ag_nilp, ag_vp, ag_fun, m1, m2, List.map_cons, List.length_map, ruB, rh_no, Int.reduceLT, Int.reduceLE, Int.reduceAdd, Int.reduceSub, Int.reduceMul, Int.reduceNeg, Int.reduceToNat, Int.reduceEq, Int.reduceNe, Int.reduceTDiv, Int.reduceTMod, implies_true, putL, appN, appX, appC, Eng.Fi, reduceCtorEq, exists_eq_left', exists_eq_left, if_true, if_false, List.replicate, Nat.reduceAdd, Nat.reduceSub, Nat.reduceMul, Nat.reduceLeDiff, Nat.reduceLT, Nat.reduceEqDiff]
        refine go _ (i + 1, [] ++ [⟨az, el, x4⟩]) ⟨hlt, by simp only; rw [hrest]; exact hf⟩ (by simp only; omega) (Wkn.to ⟨0, [(4, 1)], [], 2, [0, 3, 4]⟩ rfl rfl ?_)
        simp only [List.map_cons, List.map_nil, subs, List.cons.injEq] at hfo
        simp [Wk.st, keepT, memN, Wk.fate, Wk.fate0, assoc, getE, Wk.hp, ABlk.sub, sub1, subs, S22a, oA, oH, free_Sps, subs_append, hfo]
        
      | cons x0 r0 =>
        simp only [List.length_nil, List.length_cons, Nat.zero_add] at m1 m2
        simp +contextual -implicitDefEqProofs (maxSteps := 2000000) only [S22a, oA, oH, e1, e2, e3, eSps_len, rs_nil, rs_t, rs_f, ag_nils, ag_sl, ag_vs, ag_str, ag_ptr, ag_nilp, ag_vp, ag_fun, m1, m2, List.map_cons, List.length_map, ruB, rh_no, Int.reduceLT, Int.reduceLE, Int.reduceAdd, Int.reduceSub, Int.reduceMul, Int.reduceNeg, Int.reduceToNat, Int.reduceEq, Int.reduceNe, Int.reduceTDiv, Int.reduceTMod, implies_true, putL, appN, appX, appC, Eng.Fi, reduceCtorEq, exists_eq_left', exists_eq_left, if_true, if_false, List.replicate, Nat.reduceAdd, Nat.reduceSub, Nat.reduceMul, Nat.reduceLeDiff, Nat.reduceLT, Nat.reduceEqDiff]
        refine go _ (i + 1, (x0 :: r0) ++ [⟨az, el, x4⟩]) ⟨hlt, by simp only; rw [hrest]; exact hf⟩ (by simp only; omega) (Wkn.to ⟨0, [(4, 1)], [], 2, [0, 3, 4]⟩ rfl rfl ?_)
        simp only [List.map_cons, List.map_nil, subs, List.cons.injEq] at hfo
        simp [Wk.st, keepT, memN, Wk.fate, Wk.fate0, assoc, getE, Wk.hp, ABlk.sub, sub1, subs, S22a, oA, oH, free_Sps, subs_append, hfo]
        
    · by_cases h1 : k = 1
      · have hso : stopsOf n (.mk k ⟨az, el⟩ x2 x3 x4 x5 b) = swL az el x4 (upw az x2) x3 361 0 := by
          cases n with
          | zero => simp only [stopsOf, oneS, Sp.k, h1]; rfl
          | succ m => simp only [stopsOf, oneS, Sp.k, h1]; rfl
        obtain ⟨⟨v1, v2⟩, v3, v4⟩ := stE_one hse (by simp only [Sp.k, h1]; decide)
        obtain ⟨v4, v5⟩ := v4 h1
        simp only [Sp.at', Sp.x2, Sp.x3, Sp.x4] at v1 v2 v3 v4 v5
        unfold azR at v1 v4
        have hw := upw_bd az x2
        have hmd : (x2 - az) % 360 = upw az x2 := by unfold upw; omega
        have w1 : IntKind.wrap .i64 (x2 - az) = x2 - az := wrap64 (by omega) (by omega)
        rw [hso] at hf
        subst h1
        have d0 : (1 = (0 : Int)) = False := by decide
        simp +contextual -implicitDefEqProofs (maxSteps := 2000000) only [S22a, oH_set, e1, e2, eSps_len, d0, ruB, rh_no, Int.reduceLT, Int.reduceLE, Int.reduceAdd, Int.reduceSub, Int.reduceMul, Int.reduceNeg, Int.reduceToNat, Int.reduceEq, Int.reduceNe, Int.reduceTDiv, Int.reduceTMod, implies_true, putL, appN, appX, appC, Eng.Fi, reduceCtorEq, exists_eq_left', exists_eq_left, if_true, if_false, List.replicate, Nat.reduceAdd, Nat.reduceSub, Nat.reduceMul, Nat.reduceLeDiff, Nat.reduceLT, Nat.reduceEqDiff]
        refine Cor.lp hcs (noHx_good _) hm (S22b l i (.mk 1 ⟨az, el⟩ x2 x3 x4 x5 b)) (fun p => (0 ≤ p.1 ∧ p.1 ≤ 1000) ∧ ∃ fu : Nat, 361 ≤ p.1 + fu ∧ stopsAll n l = p.2 ++ (swL az el x4 (upw az x2) x3 fu p.1 ++ rest)) (fun p => (1000 - p.1).toNat) (a := (0, o)) ⟨by simp, 361, by simp, hf⟩ ?_ ?_
        · have hfo := fun φ => free_St φ o
          cases o with
          | nil =>
            simp only [List.map_cons, List.map_nil, subs, List.cons.injEq] at hfo
            refine Wkn.trans (Wkn.sub (hp2 := oH [] ++ [⟨2, 2, .rows 73 8 [eSp (.mk 1 ⟨az, el⟩ x2 x3 x4 x5 b)]⟩]) ?_) (Wkn.to ⟨0, [(1, 1), (2, 0)], [], 2, [0, 3, 4, 5, 6]⟩ rfl rfl ?_)
            · intro e he
              simp only [oH, eSp, List.cons_append, List.nil_append, List.mem_cons, List.not_mem_nil, or_false] at he ⊢
              first | exact he | exact he.symm
            · simp [Wk.st, keepT, memN, Wk.fate, Wk.fate0, assoc, getE, Wk.hp, ABlk.sub, sub1, subs, S22b, oA, oH, free_Sps, eSp, hfo]
            
          | cons x0 r0 =>
            simp only [List.map_cons, List.map_nil, subs, List.cons.injEq] at hfo
            refine Wkn.trans (Wkn.sub (hp2 := oH (x0 :: r0) ++ [⟨2, 2, .rows 73 8 [eSp (.mk 1 ⟨az, el⟩ x2 x3 x4 x5 b)]⟩]) ?_) (Wkn.to ⟨0, [(1, 1), (2, 0)], [], 2, [0, 3, 4, 5, 6]⟩ rfl rfl ?_)
            · intro e he
              simp only [oH, eSp, List.cons_append, List.nil_append, List.mem_cons, List.not_mem_nil, or_false] at he ⊢
              first | exact he | exact he.symm
            · simp [Wk.st, keepT, memN, Wk.fate, Wk.fate0, assoc, getE, Wk.hp, ABlk.sub, sub1, subs, S22b, oA, oH, free_Sps, eSp, hfo]
            
        clear hf
        rintro f2 ⟨d, o⟩ ⟨⟨g1, g2⟩, fu, hfu, hf⟩ go2
        simp only at g1 g2 hfu hf
        have ym := c46 (x2 - az)
        rw [hmd] at ym
        have hfo := fun φ => free_St φ o
        by_cases hle : d ≤ upw az x2
        · obtain ⟨fu, rfl⟩ : ∃ f', fu = f' + 1 := ⟨fu - 1, by omega⟩
          rw [swL, if_pos hle, List.cons_append] at hf
          have hz : (az + d) % 360 = upw 0 (az + d) := by unfold upw; omega
          have yz := c46 (az + d)
          rw [hz] at yz
          have w2 : IntKind.wrap .i64 (az + d) = az + d := wrap64 (by omega) (by omega)
          have w3 : IntKind.wrap .i64 (d + x3) = d + x3 := wrap64 (by omega) (by omega)
          generalize upw 0 (az + d) = z at *
          have hol : o.length + 1 ≤ 1000 := by rw [hf] at hlen; simp only [List.length_append, List.length_cons] at hlen; omega
          have m1 : (o.length + 1 ≤ maxLen) = True := mx (by omega)
          have m2 : ((o.length + 1) * 24 ≤ 140737488355328) = True := by simp only [eq_iff_iff, iff_true]; omega
          have hf2 : stopsAll n l = (o ++ [⟨z, el, x4⟩]) ++ (swL az el x4 (upw az x2) x3 fu (d + x3) ++ rest) := by rw [hf, List.append_assoc]; rfl
          cases o with
          | nil =>
            simp only [List.length_nil, List.length_cons, Nat.zero_add] at m1 m2
            simp +contextual -implicitDefEqProofs (maxSteps := 2000000) only [S22b, oA, oH, eSp, w1, w2, w3, ym, yz, hle, rs_nil, rs_t, rs_f, ag_nils, ag_sl, ag_vs, ag_str, ag_ptr, ag_nilp, ag_vp, ag_fun, m1, m2, List.map_cons, List.length_map, ruB, rh_no, Int.reduceLT, Int.reduceLE, Int.reduceAdd, Int.reduceSub, Int.reduceMul, Int.reduceNeg, Int.reduceToNat, Int.reduceEq, Int.reduceNe, Int.reduceTDiv, Int.reduceTMod, implies_true, putL, appN, appX, appC, Eng.Fi, reduceCtorEq, exists_eq_left', exists_eq_left, if_true, if_false, List.replicate, Nat.reduceAdd, Nat.reduceSub, Nat.reduceMul, Nat.reduceLeDiff, Nat.reduceLT, Nat.reduceEqDiff]
            refine go2 _ (d + x3, [] ++ [⟨z, el, x4⟩]) ⟨⟨by simp only; omega, by simp only; omega⟩, fu, by simp only; omega, hf2⟩ (by simp only; omega) (Wkn.to ⟨0, [(2, 1), (0, 0)], [], 2, [0, 3, 4, 5, 6]⟩ rfl rfl ?_)
            simp only [List.map_cons, List.map_nil, subs, List.cons.injEq] at hfo
            simp [Wk.st, keepT, memN, Wk.fate, Wk.fate0, assoc, getE, Wk.hp, ABlk.sub, sub1, subs, S22b, oA, oH, free_Sps, subs_append, eSp, hfo]
            
          | cons x0 r0 =>
            simp only [List.length_nil, List.length_cons, Nat.zero_add] at m1 m2
            simp +contextual -implicitDefEqProofs (maxSteps := 2000000) only [S22b, oA, oH, eSp, w1, w2, w3, ym, yz, hle, rs_nil, rs_t, rs_f, ag_nils, ag_sl, ag_vs, ag_str, ag_ptr, ag_nilp, ag_vp, ag_fun, m1, m2, List.map_cons, List.length_map, ruB, rh_no, Int.reduceLT, Int.reduceLE, Int.reduceAdd, Int.reduceSub, Int.reduceMul, Int.reduceNeg, Int.reduceToNat, Int.reduceEq, Int.reduceNe, Int.reduceTDiv, Int.reduceTMod, implies_true, putL, appN, appX, appC, Eng.Fi, reduceCtorEq, exists_eq_left', exists_eq_left, if_true, if_false, List.replicate, Nat.reduceAdd, Nat.reduceSub, Nat.reduceMul, Nat.reduceLeDiff, Nat.reduceLT, Nat.reduceEqDiff]
            refine go2 _ (d + x3, (x0 :: r0) ++ [⟨z, el, x4⟩]) ⟨⟨by simp only; omega, by simp only; omega⟩, fu, by simp only; omega, hf2⟩ (by simp only; omega) (Wkn.to ⟨0, [(2, 1), (0, 0)], [], 2, [0, 3, 4, 5, 6]⟩ rfl rfl ?_)
            simp only [List.map_cons, List.map_nil, subs, List.cons.injEq] at hfo
            simp [Wk.st, keepT, memN, Wk.fate, Wk.fate0, assoc, getE, Wk.hp, ABlk.sub, sub1, subs, S22b, oA, oH, free_Sps, subs_append, eSp, hfo]
            
        · have hf3 : stopsAll n l = o ++ rest := by
            cases fu with
            | zero => exact hf
            | succ f' => rw [swL, if_neg hle] at hf; exact hf
          cases o with
          | nil =>
            simp only [List.map_cons, List.map_nil, subs, List.cons.injEq] at hfo
            simp +contextual -implicitDefEqProofs (maxSteps := 2000000) only [S22b, oA, oH, eSp, w1, ym, hle, e3, ruB, rh_no, Int.reduceLT, Int.reduceLE, Int.reduceAdd, Int.reduceSub, Int.reduceMul, Int.reduceNeg, Int.reduceToNat, Int.reduceEq, Int.reduceNe, Int.reduceTDiv, Int.reduceTMod, implies_true, putL, appN, appX, appC, Eng.Fi, reduceCtorEq, exists_eq_left', exists_eq_left, if_true, if_false, List.replicate, Nat.reduceAdd, Nat.reduceSub, Nat.reduceMul, Nat.reduceLeDiff, Nat.reduceLT, Nat.reduceEqDiff]
            refine go _ (i + 1, []) ⟨hlt, by simp only; rw [hrest]; exact hf3⟩ (by simp only; omega) (Wkn.to ⟨0, [(1, 1)], [], 2, [0, 3, 4]⟩ rfl rfl ?_)
            simp [Wk.st, keepT, memN, Wk.fate, Wk.fate0, assoc, getE, Wk.hp, ABlk.sub, sub1, subs, S22a, oA, oH, free_Sps, hfo]
            
          | cons x0 r0 =>
            simp only [List.map_cons, List.map_nil, subs, List.cons.injEq] at hfo
            simp +contextual -implicitDefEqProofs (maxSteps := 2000000) only [S22b, oA, oH, eSp, w1, ym, hle, e3, ruB, rh_no, Int.reduceLT, Int.reduceLE, Int.reduceAdd, Int.reduceSub, Int.reduceMul, Int.reduceNeg, Int.reduceToNat, Int.reduceEq, Int.reduceNe, Int.reduceTDiv, Int.reduceTMod, implies_true, putL, appN, appX, appC, Eng.Fi, reduceCtorEq, exists_eq_left', exists_eq_left, if_true, if_false, List.replicate, Nat.reduceAdd, Nat.reduceSub, Nat.reduceMul, Nat.reduceLeDiff, Nat.reduceLT, Nat.reduceEqDiff]
            refine go _ (i + 1, (x0 :: r0)) ⟨hlt, by simp only; rw [hrest]; exact hf3⟩ (by simp only; omega) (Wkn.to ⟨0, [(1, 1)], [], 2, [0, 3, 4]⟩ rfl rfl ?_)
            simp [Wk.st, keepT, memN, Wk.fate, Wk.fate0, assoc, getE, Wk.hp, ABlk.sub, sub1, subs, S22a, oA, oH, free_Sps, hfo]
            
      · obtain ⟨k1, k2⟩ := (stE_frE hse).1
        simp only [Sp.k] at k1 k2
        obtain rfl : k = 2 := by omega
        obtain ⟨⟨v1, v2⟩, m, rfl, hm1⟩ := stE_rep hse rfl
        simp only [Sp.x5, Sp.body] at v1 v2 hm1
        have hso : stopsOf (m + 1) (.mk 2 ⟨az, el⟩ x2 x3 x4 x5 b) = repL (stopsAll m b) x5.toNat := rfl
        rw [hso] at hf
        have hlw : (stopsAll m b).length ≤ 1000 := by
          obtain ⟨q, hq⟩ : ∃ q, x5.toNat = q + 1 := ⟨x5.toNat - 1, by omega⟩
          rw [hf, hq, repL] at hlen
          simp only [List.length_append] at hlen; omega
        have yw := cR m b rfl hm1 hlw
        have hwp := stopsAll_pos hm1
        generalize stopsAll m b = w at *
        have d0 : (2 = (0 : Int)) = False := by decide
        have d1 : (2 = (1 : Int)) = False := by decide
        have hfw := fun φ => free_St φ w
        simp +contextual -implicitDefEqProofs (maxSteps := 2000000) only [S22a, oH_set, e1, e2, eSps_len, d0, d1, yw, ruB, rh_no, Int.reduceLT, Int.reduceLE, Int.reduceAdd, Int.reduceSub, Int.reduceMul, Int.reduceNeg, Int.reduceToNat, Int.reduceEq, Int.reduceNe, Int.reduceTDiv, Int.reduceTMod, implies_true, putL, appN, appX, appC, Eng.Fi, reduceCtorEq, exists_eq_left', exists_eq_left, if_true, if_false, List.replicate, Nat.reduceAdd, Nat.reduceSub, Nat.reduceMul, Nat.reduceLeDiff, Nat.reduceLT, Nat.reduceEqDiff]
        refine Cor.lp hcs (noHx_good _) hm (S22c l i (.mk 2 ⟨az, el⟩ x2 x3 x4 x5 b) w) (fun p => (p.1 : Int) ≤ x5 ∧ stopsAll (m + 1) l = p.2 ++ (repL w (x5.toNat - p.1) ++ rest)) (fun p => x5.toNat - p.1) (a := (0, o)) ⟨by simp only; omega, hf⟩ ?_ ?_
        · have hfo := fun φ => free_St φ o
          cases o with
          | nil =>
            simp only [List.map_cons, List.map_nil, subs, List.cons.injEq] at hfo
            refine Wkn.trans (Wkn.sub (hp2 := oH [] ++ [⟨2, 2, .rows 73 8 [eSp (.mk 2 ⟨az, el⟩ x2 x3 x4 x5 b)]⟩]) ?_) (Wkn.to ⟨0, [(1, 1), (2, 0)], [], 2, [0, 3, 4, 5, 7, 8]⟩ rfl rfl ?_)
            · intro e he
              simp only [oH, eSp, List.cons_append, List.nil_append, List.mem_cons, List.not_mem_nil, or_false] at he ⊢
              first | exact he | exact he.symm
            · simp [Wk.st, keepT, memN, Wk.fate, Wk.fate0, assoc, getE, Wk.hp, ABlk.sub, sub1, subs, S22c, oA, oH, free_Sps, eSp, hfo, hfw]
            
          | cons x0 r0 =>
            simp only [List.map_cons, List.map_nil, subs, List.cons.injEq] at hfo
            refine Wkn.trans (Wkn.sub (hp2 := oH (x0 :: r0) ++ [⟨2, 2, .rows 73 8 [eSp (.mk 2 ⟨az, el⟩ x2 x3 x4 x5 b)]⟩]) ?_) (Wkn.to ⟨0, [(1, 1), (2, 0)], [], 2, [0, 3, 4, 5, 7, 8]⟩ rfl rfl ?_)
            · intro e he
              simp only [oH, eSp, List.cons_append, List.nil_append, List.mem_cons, List.not_mem_nil, or_false] at he ⊢
              first | exact he | exact he.symm
            · simp [Wk.st, keepT, memN, Wk.fate, Wk.fate0, assoc, getE, Wk.hp, ABlk.sub, sub1, subs, S22c, oA, oH, free_Sps, eSp, hfo, hfw]
            
        clear hf
        rintro f2 ⟨d, o⟩ ⟨g1, hf⟩ go2
        simp only at g1 hf
        have hfo := fun φ => free_St φ o
        by_cases hlt2 : (d : Int) < x5
        · obtain ⟨q, hq⟩ : ∃ q, x5.toNat - d = q + 1 := ⟨x5.toNat - d - 1, by omega⟩
          rw [hq, repL, List.append_assoc] at hf
          have w1 : IntKind.wrap .i64 ((d : Int) + 1) = ((d + 1 : Nat) : Int) := suc_w (by omega)
          have hol : o.length + w.length ≤ 1000 := by rw [hf] at hlen; simp only [List.length_append] at hlen; omega
          have m0 : ((w.map eSt).all fun v => decide (v.cells.length = 3)) = true := by simp [List.all_map, AV.cells]
          have hf2 : stopsAll (m + 1) l = (o ++ w) ++ (repL w (x5.toNat - (d + 1)) ++ rest) := by rw [hf, List.append_assoc, show x5.toNat - (d + 1) = q by omega]
          have m1 : (o.length + w.length ≤ maxLen) = True := mx (by omega)
          have m2 : ((o.length + w.length) * 24 ≤ 140737488355328) = True := by simp only [eq_iff_iff, iff_true]; omega
          cases w with
          | nil => exact absurd hwp (by simp)
          | cons w0 wr =>
            cases o with
            | nil =>
              simp only [List.length_nil, List.length_cons, Nat.zero_add] at m1 m2
              simp only [List.map_cons, List.map_nil, subs, List.cons.injEq] at hfo hfw
              simp only [List.map_cons] at m0
              simp +contextual -implicitDefEqProofs (maxSteps := 2000000) only [S22c, oA, oH, eSp, hlt2, w1, rs_nil, rs_t, rs_f, ag_nils, ag_sl, ag_vs, ag_str, ag_ptr, ag_nilp, ag_vp, ag_fun, m0, m1, m2, List.map_cons, List.length_map, ruB, rh_no, Int.reduceLT, Int.reduceLE, Int.reduceAdd, Int.reduceSub, Int.reduceMul, Int.reduceNeg, Int.reduceToNat, Int.reduceEq, Int.reduceNe, Int.reduceTDiv, Int.reduceTMod, implies_true, putL, appN, appX, appC, Eng.Fi, reduceCtorEq, exists_eq_left', exists_eq_left, if_true, if_false, List.replicate, Nat.reduceAdd, Nat.reduceSub, Nat.reduceMul, Nat.reduceLeDiff, Nat.reduceLT, Nat.reduceEqDiff]
              refine go2 _ (d + 1, [] ++ w0 :: wr) ⟨by simp only; omega, hf2⟩ (by simp only; omega) (Wkn.to ⟨0, [(2, 1), (0, 0)], [], 2, [0, 3, 4, 5, 7, 8]⟩ rfl rfl ?_)
              simp [Wk.st, keepT, memN, Wk.fate, Wk.fate0, assoc, getE, Wk.hp, ABlk.sub, sub1, subs, S22c, oA, oH, free_Sps, subs_append, eSp, hfo, hfw] <;> omega
              
            | cons x0 r0 =>
              simp only [List.length_nil, List.length_cons, Nat.zero_add] at m1 m2
              simp only [List.map_cons, List.map_nil, subs, List.cons.injEq] at hfo hfw
              simp only [List.map_cons] at m0
              simp +contextual -implicitDefEqProofs (maxSteps := 2000000) only [S22c, oA, oH, eSp, hlt2, w1, rs_nil, rs_t, rs_f, ag_nils, ag_sl, ag_vs, ag_str, ag_ptr, ag_nilp, ag_vp, ag_fun, m0, m1, m2, List.map_cons, List.length_map, ruB, rh_no, Int.reduceLT, Int.reduceLE, Int.reduceAdd, Int.reduceSub, Int.reduceMul, Int.reduceNeg, Int.reduceToNat, Int.reduceEq, Int.reduceNe, Int.reduceTDiv, Int.reduceTMod, implies_true, putL, appN, appX, appC, Eng.Fi, reduceCtorEq, exists_eq_left', exists_eq_left, if_true, if_false, List.replicate, Nat.reduceAdd, Nat.reduceSub, Nat.reduceMul, Nat.reduceLeDiff, Nat.reduceLT, Nat.reduceEqDiff]
              refine go2 _ (d + 1, (x0 :: r0) ++ w0 :: wr) ⟨by simp only; omega, hf2⟩ (by simp only; omega) (Wkn.to ⟨0, [(2, 1), (0, 0)], [], 2, [0, 3, 4, 5, 7, 8]⟩ rfl rfl ?_)
              simp [Wk.st, keepT, memN, Wk.fate, Wk.fate0, assoc, getE, Wk.hp, ABlk.sub, sub1, subs, S22c, oA, oH, free_Sps, subs_append, eSp, hfo, hfw] <;> omega
              
        · have hf3 : stopsAll (m + 1) l = o ++ rest := by
            rw [show x5.toNat - d = 0 by omega] at hf; exact hf
          cases o with
          | nil =>
            simp only [List.map_cons, List.map_nil, subs, List.cons.injEq] at hfo
            simp +contextual -implicitDefEqProofs (maxSteps := 2000000) only [S22c, oA, oH, eSp, hlt2, e3, ruB, rh_no, Int.reduceLT, Int.reduceLE, Int.reduceAdd, Int.reduceSub, Int.reduceMul, Int.reduceNeg, Int.reduceToNat, Int.reduceEq, Int.reduceNe, Int.reduceTDiv, Int.reduceTMod, implies_true, putL, appN, appX, appC, Eng.Fi, reduceCtorEq, exists_eq_left', exists_eq_left, if_true, if_false, List.replicate, Nat.reduceAdd, Nat.reduceSub, Nat.reduceMul, Nat.reduceLeDiff, Nat.reduceLT, Nat.reduceEqDiff]
            refine go _ (i + 1, []) ⟨hlt, by simp only; rw [hrest]; exact hf3⟩ (by simp only; omega) (Wkn.to ⟨0, [(1, 1)], [], 2, [0, 3, 4]⟩ rfl rfl ?_)
            simp [Wk.st, keepT, memN, Wk.fate, Wk.fate0, assoc, getE, Wk.hp, ABlk.sub, sub1, subs, S22a, oA, oH, free_Sps, hfo]
            
          | cons x0 r0 =>
            simp only [List.map_cons, List.map_nil, subs, List.cons.injEq] at hfo
            simp +contextual -implicitDefEqProofs (maxSteps := 2000000) only [S22c, oA, oH, eSp, hlt2, e3, ruB, rh_no, Int.reduceLT, Int.reduceLE, Int.reduceAdd, Int.reduceSub, Int.reduceMul, Int.reduceNeg, Int.reduceToNat, Int.reduceEq, Int.reduceNe, Int.reduceTDiv, Int.reduceTMod, implies_true, putL, appN, appX, appC, Eng.Fi, reduceCtorEq, exists_eq_left', exists_eq_left, if_true, if_false, List.replicate, Nat.reduceAdd, Nat.reduceSub, Nat.reduceMul, Nat.reduceLeDiff, Nat.reduceLT, Nat.reduceEqDiff]
            refine go _ (i + 1, (x0 :: r0)) ⟨hlt, by simp only; rw [hrest]; exact hf3⟩ (by simp only; omega) (Wkn.to ⟨0, [(1, 1)], [], 2, [0, 3, 4]⟩ rfl rfl ?_)
            simp [Wk.st, keepT, memN, Wk.fate, Wk.fate0, assoc, getE, Wk.hp, ABlk.sub, sub1, subs, S22a, oA, oH, free_Sps, hfo]
            
  · have e1 : decide ((i : Int) < (l.length : Int)) = false := lt_f hlt
    rw [List.drop_eq_nil_of_le hlt] at hf
    have hf : stopsAll n l = o := by rw [hf]; simp [stopsAll]
    rw [hf]
    have hfo := fun φ => free_St φ o
    cases o with
    | nil => simp +contextual -implicitDefEqProofs (maxSteps := 2000000) only [S22a, oA, oH, e1, eSps_len, List.map_nil, ruB, rh_no, Int.reduceLT, Int.reduceLE, Int.reduceAdd, Int.reduceSub, Int.reduceMul, Int.reduceNeg, Int.reduceToNat, Int.reduceEq, Int.reduceNe, Int.reduceTDiv, Int.reduceTMod, implies_true, putL, appN, appX, appC, Eng.Fi, reduceCtorEq, exists_eq_left', exists_eq_left, if_true, if_false, List.replicate, Nat.reduceAdd, Nat.reduceSub, Nat.reduceMul, Nat.reduceLeDiff, Nat.reduceLT, Nat.reduceEqDiff]
    | cons x r =>
      have t0 : (r.map eSt).length = r.length := by simp
      have t1 : (r.length ≤ (r.map eSt).length) = True := by simp
      have t2 : (r.map eSt).take r.length = r.map eSt := by rw [List.take_of_length_le]; simp
      simp only [List.map_cons] at hfo
      simp +contextual -implicitDefEqProofs (maxSteps := 2000000) only [S22a, oA, oH, e1, eSps_len, List.map_cons, t0, t1, t2, Nat.le_refl, hfo, ruB, rh_no, Int.reduceLT, Int.reduceLE, Int.reduceAdd, Int.reduceSub, Int.reduceMul, Int.reduceNeg, Int.reduceToNat, Int.reduceEq, Int.reduceNe, Int.reduceTDiv, Int.reduceTMod, implies_true, putL, appN, appX, appC, Eng.Fi, reduceCtorEq, exists_eq_left', exists_eq_left, if_true, if_false, List.replicate, Nat.reduceAdd, Nat.reduceSub, Nat.reduceMul, Nat.reduceLeDiff, Nat.reduceLT, Nat.reduceEqDiff]
instance (n : Nat) (l : Sps) : Decidable (okP n l) := by unfold okP; infer_instance
noncomputable def cf_rStops (n : Nat) : List AV → Option AV
  | [v] => onSps v fun l => if okP n l ∧ (stopsAll n l).length ≤ 1000 then some (.vs ((stopsAll n l).map eSt)) else none
  | _ => none
theorem x_rStops (n : Nat) (l : Sps) (h1 : okP n l) (h2 : (stopsAll n l).length ≤ 1000) : cf_rStops n [.vs (eSps l)] = some (.vs ((stopsAll n l).map eSt)) := by
  simp only [cf_rStops]
  exact (onSps_e l _).trans (if_pos ⟨h1, h2⟩)
theorem g_rStops : ∀ (n : Nat), Fn P 22 (cf_rStops n)
  | 0 => fun args v h => by
    unfold cf_rStops at h; split at h
    · obtain ⟨l, rfl, h2⟩ := onSps_inv h
      split at h2
      · rename_i hc; cases h2
        exact k_rStopsG 0 _ (addC_good g_Mod (noC_good _)) (fun a => x_Mod a 360 (by simp)) (fun m b e => by omega) l hc.1 hc.2
      · cases h2
    · cases h
  | n + 1 => fun args v h => by
    have g := g_rStops n
    unfold cf_rStops at h; split at h
    · obtain ⟨l, rfl, h2⟩ := onSps_inv h
      split at h2
      · rename_i hc; cases h2
        refine k_rStopsG (n + 1) _ (addC_good g (addC_good g_Mod (noC_good _))) (fun a => x_Mod a 360 (by simp)) (fun m b e h1 h2 => ?_) l hc.1 hc.2
        obtain rfl : n = m := by omega
        exact x_rStops n b h1 h2
      · cases h2
    · cases h
end Sc
