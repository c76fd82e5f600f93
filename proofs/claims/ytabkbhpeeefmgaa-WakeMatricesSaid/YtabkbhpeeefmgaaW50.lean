import Derived.Test.YtabkbhpeeefmgaaEngS9
import Derived.Test.YtabkbhpeeefmgaaW49
open Go Go.Proofs Eng
set_option maxRecDepth 100000
set_option linter.unusedSimpArgs false
set_option linter.unusedVariables false
def a32 : AC := .seq (.ops false [] [⟨some 2, .p (.mov), [.c (.bool false)], none⟩]) (.seq (.seq (.ops false [] [⟨some 4, .p (.mov), [.t 0], none⟩, ⟨some 5, .p (.lenS), [.t 4], none⟩, ⟨some 6, .p (.binI .gtr), [.t 5, .c (.int .i64 8)], none⟩]) (.cond (.t 6) (.seq (.ops false [] [⟨some 2, .p (.mov), [.c (.bool false)], none⟩]) (.ret)) (.skip))) (.seq (.seq (.ops false [] [⟨some 3, .p (.mov), [.c (.int .i64 0)], none⟩]) (.block 0 (.loop (.seq (.seq (.ops false [] [⟨some 7, .p (.mov), [.t 3], none⟩, ⟨some 8, .p (.mov), [.t 0], none⟩, ⟨some 9, .p (.lenS), [.t 8], none⟩, ⟨some 10, .p (.binI .lss), [.t 7, .t 9], none⟩]) (.cond (.t 10) (.skip) (.exit 0))) (.seq (.block 1 (.seq (.ops false [] [⟨some 13, .p (.mov), [.t 0], none⟩, ⟨some 14, .p (.mov), [.t 3], none⟩, ⟨some 15, .p (.iaddrS 1), [.t 13, .t 14], none⟩, ⟨some 16, .load 1 false, [.t 15], none⟩, ⟨some 17, .p (.lenS), [.t 16], none⟩, ⟨some 18, .p (.binI .gtr), [.t 17, .c (.int .i64 8)], none⟩]) (.cond (.t 18) (.seq (.ops false [] [⟨some 2, .p (.mov), [.c (.bool false)], none⟩]) (.ret)) (.skip)))) (.ops false [] [⟨some 11, .p (.mov), [.t 3], none⟩, ⟨some 12, .p (.binI .add), [.t 11, .c (.int .i64 1)], none⟩, ⟨some 3, .p (.mov), [.t 12], none⟩])))))) (.seq (.ops false [] [⟨some 19, .p (.mov), [.t 0], none⟩, ⟨some 20, .call 100, [.t 19], none⟩, ⟨some 21, .p (.binI .neq), [.t 20, .c (.int .i64 0)], none⟩, ⟨some 22, .p (.mov), [.t 21], none⟩, ⟨some 23, .p (.mov), [.t 0], some (22, false)⟩, ⟨some 24, .p (.lenS), [.t 23], some (22, false)⟩, ⟨some 25, .p (.binI .leq), [.t 24, .c (.int .i64 5)], some (22, false)⟩, ⟨some 26, .p (.pick), [.t 22, .c (.bool true), .t 25], none⟩, ⟨some 2, .p (.mov), [.t 26], none⟩]) (.ret))))
theorem c32 : FnC Try.prog 32 27 a32 [.tmp 2] := ⟨Try.call32, _, _, Try.func32, rfl, by kernel_rfl, by kernel_rfl, rfl⟩
def a34 : AC := .seq (.ops false [] [⟨some 2, .p (.mov), [.c (.nilslice)], none⟩]) (.seq (.ops false [] [⟨some 3, .p (.mov), [.c (.nilslice)], none⟩]) (.seq (.seq (.ops false [] [⟨some 4, .p (.mov), [.c (.int .i64 0)], none⟩]) (.block 0 (.loop (.seq (.seq (.ops false [] [⟨some 5, .p (.mov), [.t 4], none⟩, ⟨some 6, .p (.mov), [.t 0], none⟩, ⟨some 7, .p (.lenS), [.t 6], none⟩, ⟨some 8, .p (.binI .lss), [.t 5, .t 7], none⟩]) (.cond (.t 8) (.skip) (.exit 0))) (.seq (.block 1 (.ops false [] [⟨some 11, .p (.mov), [.t 3], none⟩, ⟨some 12, .p (.mov), [.t 0], none⟩, ⟨some 13, .p (.mov), [.t 4], none⟩, ⟨some 14, .p (.iaddrS 1), [.t 12, .t 13], none⟩, ⟨some 15, .load 1 false, [.t 14], none⟩, ⟨some 16, .call 104, [.t 15], none⟩, ⟨some 17, .fbs 1, [.t 16], none⟩, ⟨some 18, .app 38 1 24, [.t 11, .t 17], none⟩, ⟨some 3, .p (.mov), [.t 18], none⟩])) (.ops false [] [⟨some 9, .p (.mov), [.t 4], none⟩, ⟨some 10, .p (.binI .add), [.t 9, .c (.int .i64 1)], none⟩, ⟨some 4, .p (.mov), [.t 10], none⟩])))))) (.seq (.ops false [] [⟨some 19, .p (.mov), [.t 3], none⟩, ⟨some 2, .p (.mov), [.t 19], none⟩]) (.ret))))
theorem c34 : FnC Try.prog 34 20 a34 [.tmp 2] := ⟨Try.call34, _, _, Try.func34, rfl, by kernel_rfl, by kernel_rfl, rfl⟩
def a40 : AC := .seq (.ops false [] [⟨some 2, .p (.mov), [.c (.nilslice)], none⟩]) (.seq (.ops false [] [⟨some 10, .p (.mov), [.t 0], none⟩, ⟨some 11, .call 38, [.t 10], none⟩, ⟨some 9, .p (.mov), [.t 11], none⟩, ⟨some 12, .p (.ext 0), [.t 9], none⟩, ⟨some 13, .p (.ext 1), [.t 9], none⟩, ⟨some 3, .p (.mov), [.t 12], none⟩, ⟨some 4, .p (.mov), [.t 13], none⟩]) (.seq (.ops false [] [⟨some 5, .p (.mov), [.c (.nilslice)], none⟩]) (.seq (.seq (.ops false [] [⟨some 6, .p (.mov), [.c (.int .i64 0)], none⟩]) (.block 0 (.loop (.seq (.seq (.ops false [] [⟨some 14, .p (.mov), [.t 6], none⟩, ⟨some 15, .p (.mov), [.t 0], none⟩, ⟨some 16, .p (.lenS), [.t 15], none⟩, ⟨some 17, .p (.binI .lss), [.t 14, .t 16], none⟩]) (.cond (.t 17) (.skip) (.exit 0))) (.seq (.block 1 (.seq (.ops false [] [⟨some 7, .p (.mov), [.c (.bool true)], none⟩]) (.seq (.seq (.ops false [] [⟨some 8, .p (.mov), [.c (.int .i64 0)], none⟩]) (.block 2 (.loop (.seq (.seq (.ops false [] [⟨some 20, .p (.mov), [.t 8], none⟩, ⟨some 21, .p (.mov), [.t 3], none⟩, ⟨some 22, .p (.lenS), [.t 21], none⟩, ⟨some 23, .p (.binI .lss), [.t 20, .t 22], none⟩]) (.cond (.t 23) (.skip) (.exit 2))) (.seq (.block 3 (.ops true [] [⟨some 26, .p (.mov), [.t 7], none⟩, ⟨some 27, .p (.mov), [.t 26], none⟩, ⟨some 28, .p (.mov), [.t 3], some (27, true)⟩, ⟨some 29, .p (.mov), [.t 8], some (27, true)⟩, ⟨some 30, .p (.iaddrS 1), [.t 28, .t 29], some (27, true)⟩, ⟨some 31, .load 1 false, [.t 30], some (27, true)⟩, ⟨some 32, .p (.mov), [.t 6], some (27, true)⟩, ⟨some 33, .p (.iaddrS 1), [.t 31, .t 32], some (27, true)⟩, ⟨some 34, .load 1 false, [.t 33], some (27, true)⟩, ⟨some 35, .p (.mov), [.t 3], some (27, true)⟩, ⟨some 36, .p (.iaddrS 1), [.t 35, .c (.int .i64 0)], some (27, true)⟩, ⟨some 37, .load 1 false, [.t 36], some (27, true)⟩, ⟨some 38, .p (.mov), [.t 6], some (27, true)⟩, ⟨some 39, .p (.iaddrS 1), [.t 37, .t 38], some (27, true)⟩, ⟨some 40, .load 1 false, [.t 39], some (27, true)⟩, ⟨some 41, .p (.binI .eql), [.t 34, .t 40], some (27, true)⟩, ⟨some 42, .p (.pick), [.t 27, .t 41, .c (.bool false)], none⟩, ⟨some 7, .p (.mov), [.t 42], none⟩])) (.ops false [] [⟨some 24, .p (.mov), [.t 8], none⟩, ⟨some 25, .p (.binI .add), [.t 24, .c (.int .i64 1)], none⟩, ⟨some 8, .p (.mov), [.t 25], none⟩])))))) (.seq (.ops false [] [⟨some 43, .p (.mov), [.t 7], none⟩]) (.cond (.t 43) (.ops false [] [⟨some 44, .p (.mov), [.t 5], none⟩, ⟨some 45, .p (.mov), [.t 6], none⟩, ⟨some 46, .fbs 1, [.t 45], none⟩, ⟨some 47, .app 3 1 8, [.t 44, .t 46], none⟩, ⟨some 5, .p (.mov), [.t 47], none⟩]) (.skip)))))) (.ops false [] [⟨some 18, .p (.mov), [.t 6], none⟩, ⟨some 19, .p (.binI .add), [.t 18, .c (.int .i64 1)], none⟩, ⟨some 6, .p (.mov), [.t 19], none⟩])))))) (.seq (.ops false [] [⟨some 48, .p (.mov), [.t 5], none⟩, ⟨some 2, .p (.mov), [.t 48], none⟩]) (.ret)))))
theorem c40 : FnC Try.prog 40 49 a40 [.tmp 2] := ⟨Try.call40, _, _, Try.func40, rfl, by kernel_rfl, by kernel_rfl, rfl⟩
namespace Wa
theorem neP_s {k : Nat} {q : L} {b : List L} {j : Nat} (h : j < b.length) : neP k q (b.take (j + 1)) ↔ neP k q (b.take j) ∨ ¬ gk k b[j] = gk k q := by
  rw [List.take_succ_eq_append_getElem h]
  constructor
  · rintro ⟨p, hp, hn⟩
    rcases List.mem_append.1 hp with hp | hp
    · exact .inl ⟨p, hp, hn⟩
    · rw [List.mem_singleton.1 hp] at hn; exact .inr hn
  · rintro (⟨p, hp, hn⟩ | hn)
    · exact ⟨p, List.mem_append.2 (.inl hp), hn⟩
    · exact ⟨_, List.mem_append.2 (.inr (List.mem_singleton.2 rfl)), hn⟩
def S_q1 (m b : List L) (q : Nat × L) : AState := ⟨[.vs (m.map eL), .any, .any, .vs (b.map eL), .any, gA 0 1 (q.2.map eI), I q.1, .any, .any, .any, .any, .any, .any, .any, .any, .any, .any, .any, .any, .any, .any, .any, .any, .any, .any, .any, .any, .any, .any, .any, .any, .any, .any, .any, .any, .any, .any, .any, .any, .any, .any, .any, .any, .any, .any, .any, .any, .any, .any], gH 0 3 1 (q.2.map eI), 1⟩
def S_q2 (m b : List L) (k : Nat) (out : L) (q : Nat × Bool) : AState := ⟨[.vs (m.map eL), .any, .any, .vs (b.map eL), .any, gA 0 1 (out.map eI), I k, .bool q.2, I q.1, .any, .any, .any, .any, .any, .any, .any, .any, .any, .any, .any, .any, .any, .any, .any, .any, .any, .any, .any, .any, .any, .any, .any, .any, .any, .any, .any, .any, .any, .any, .any, .any, .any, .any, .any, .any, .any, .any, .any, .any], gH 0 3 1 (out.map eI), 1⟩
set_option maxHeartbeats 4000000 in
theorem k_rCertain (m : List L) (h0 : (cmV m).2 = 0) : FOk P 40 [.vs (m.map eL)] (.vs ((ceL m).map eI)) := by
  have y2 := x_rCheapest m (by simp only [h0])
  have hn := (cmV_z h0).n
  have hr := chV_rows h0
  unfold ceL
  generalize chV m = q at *
  obtain ⟨b, c⟩ := q
  simp only at hr y2 ⊢
  obtain ⟨hr1, hr2, hr3⟩ := hr
  have hfl := fun φ => free_L φ b
  have hh : b.headD [] ∈ b := by
    cases b with
    | nil => simp at hr1
    | cons a l => simp
  have g0 : (b.map eL)[0]? = some (eL (b.headD [])) := by
    cases b with
    | nil => simp at hr1
    | cons a l => rfl
  have hq0 := hr3 _ hh
  have hcs := ceG_s b
  have hcl := ceG_len b
  have hc0 : ceG b 0 = [] := rfl
  generalize ceG b = G at *
  generalize b.headD [] = q0 at *
  refine c40.fok (by simp only [subs, sub1, free_L]) (Cor.run (addC_good g_rCheapest (noC_good _)) (noHx_good _) hm ?_)
  simp +contextual -implicitDefEqProofs (maxSteps := 2000000) only [bg_eq, a40, y2, Int.natCast_zero, ruB, rh_no, Int.reduceLT, Int.reduceLE, Int.reduceAdd, Int.reduceSub, Int.reduceMul, Int.reduceNeg, Int.reduceToNat, Int.reduceEq, Int.reduceNe, Int.reduceTDiv, Int.reduceTMod, implies_true, putL, appN, appX, appC, Eng.Fi, reduceCtorEq, exists_eq_left', exists_eq_left, if_true, if_false, List.replicate, Nat.reduceAdd, Nat.reduceSub, Nat.reduceMul, Nat.reduceLeDiff, Nat.reduceLT, Nat.reduceEqDiff]
  refine Cor.lp (addC_good g_rCheapest (noC_good _)) (noHx_good _) hm (S_q1 m b) (fun q => q.1 ≤ m.length ∧ q.2 = G q.1) (fun q => m.length - q.1) (a := (0, [])) ⟨Nat.zero_le _, hc0.symm⟩ (Wkn.to ⟨0, [], [], 1, [0, 3, 5, 6]⟩ rfl rfl (by simp [Wk.st, keepT, memN, Wk.fate, Wk.fate0, assoc, getE, Wk.hp, ABlk.sub, sub1, subs, S_q1, gA, gH, free_L])) ?_
  rintro f ⟨k, out⟩ ⟨hk, ho⟩ go
  simp only at hk ho
  have hol : out.length ≤ k := by rw [ho]; exact hcl k
  have hfo := fun φ => free_I φ out
  rcases Nat.lt_or_ge k m.length with hlt | hge
  · have e1 : ((k : Int) < (m.length : Int)) = True := eq_true (by omega)
    have e3 : IntKind.wrap .i64 ((k : Int) + 1) = ((k + 1 : Nat) : Int) := suc_w (by omega)
    have hs := hcs k
    rw [← ho] at hs
    have g1 := gk_get (k := k) (p := q0) (by omega)
    have m1 : (out.length + 1 ≤ maxLen) = True := mx (by omega)
    have m2 : ((out.length + 1) * 8 ≤ 140737488355328) = True := by simp only [eq_iff_iff, iff_true]; omega
    simp +contextual -implicitDefEqProofs (maxSteps := 2000000) only [S_q1, e1, List.length_map, Int.natCast_zero, ruB, rh_no, Int.reduceLT, Int.reduceLE, Int.reduceAdd, Int.reduceSub, Int.reduceMul, Int.reduceNeg, Int.reduceToNat, Int.reduceEq, Int.reduceNe, Int.reduceTDiv, Int.reduceTMod, implies_true, putL, appN, appX, appC, Eng.Fi, reduceCtorEq, exists_eq_left', exists_eq_left, if_true, if_false, List.replicate, Nat.reduceAdd, Nat.reduceSub, Nat.reduceMul, Nat.reduceLeDiff, Nat.reduceLT, Nat.reduceEqDiff]
    refine Cor.lp (addC_good g_rCheapest (noC_good _)) (noHx_good _) hm (S_q2 m b k out) (fun q => q.1 ≤ b.length ∧ (q.2 = true ↔ ¬ neP k q0 (b.take q.1))) (fun q => b.length - q.1) (a := (0, true)) ⟨Nat.zero_le _, by simp [neP]⟩ (Wkn.keep [0, 3, 5, 6, 7, 8] rfl) ?_
    rintro f2 ⟨j, t⟩ ⟨hj, ht⟩ go2
    simp only at hj ht
    rcases Nat.lt_or_ge j b.length with hlt2 | hge2
    · have u1 : ((j : Int) < (b.length : Int)) = True := eq_true (by omega)
      have u2 : (b.map eL)[j]? = some (eL b[j]) := get_e eL b hlt2
      have u3 : IntKind.wrap .i64 ((j : Int) + 1) = ((j + 1 : Nat) : Int) := suc_w (by omega)
      have hbj := hr3 b[j] (by simp)
      have g2 := gk_get (k := k) (p := b[j]) (by omega)
      have hns := neP_s (k := k) (q := q0) hlt2
      generalize b[j] = p at *
      generalize gk k p = x at *
      generalize gk k q0 = y at *
      cases t with
      | true =>
        have ht' : ¬ neP k q0 (b.take j) := ht.1 rfl
        by_cases hxy : x = y
        · have hxy' := eq_true hxy
          simp +contextual -implicitDefEqProofs (maxSteps := 2000000) only [S_q2, u1, u2, u3, g0, g1, g2, hxy', List.length_map, Int.natCast_zero, ruB, rh_no, Int.reduceLT, Int.reduceLE, Int.reduceAdd, Int.reduceSub, Int.reduceMul, Int.reduceNeg, Int.reduceToNat, Int.reduceEq, Int.reduceNe, Int.reduceTDiv, Int.reduceTMod, implies_true, putL, appN, appX, appC, Eng.Fi, reduceCtorEq, exists_eq_left', exists_eq_left, if_true, if_false, List.replicate, Nat.reduceAdd, Nat.reduceSub, Nat.reduceMul, Nat.reduceLeDiff, Nat.reduceLT, Nat.reduceEqDiff]
          exact go2 _ (j + 1, true) ⟨hlt2, ⟨fun _ q => (hns.1 q).elim ht' (fun q => q hxy), fun _ => rfl⟩⟩ (by simp only; omega) (Wkn.keep [0, 3, 5, 6, 7, 8] rfl)
        · have hxy' := eq_false hxy
          simp +contextual -implicitDefEqProofs (maxSteps := 2000000) only [S_q2, u1, u2, u3, g0, g1, g2, hxy', List.length_map, Int.natCast_zero, ruB, rh_no, Int.reduceLT, Int.reduceLE, Int.reduceAdd, Int.reduceSub, Int.reduceMul, Int.reduceNeg, Int.reduceToNat, Int.reduceEq, Int.reduceNe, Int.reduceTDiv, Int.reduceTMod, implies_true, putL, appN, appX, appC, Eng.Fi, reduceCtorEq, exists_eq_left', exists_eq_left, if_true, if_false, List.replicate, Nat.reduceAdd, Nat.reduceSub, Nat.reduceMul, Nat.reduceLeDiff, Nat.reduceLT, Nat.reduceEqDiff]
          exact go2 _ (j + 1, false) ⟨hlt2, ⟨fun q => by simp at q, fun q => absurd (hns.2 (.inr hxy)) q⟩⟩ (by simp only; omega) (Wkn.keep [0, 3, 5, 6, 7, 8] rfl)
      | false =>
        have ht' : neP k q0 (b.take j) := Decidable.byContradiction fun q => by have := ht.2 q; simp at this
        simp +contextual -implicitDefEqProofs (maxSteps := 2000000) only [S_q2, u1, u2, u3, g0, g1, g2, List.length_map, Int.natCast_zero, ruB, rh_no, Int.reduceLT, Int.reduceLE, Int.reduceAdd, Int.reduceSub, Int.reduceMul, Int.reduceNeg, Int.reduceToNat, Int.reduceEq, Int.reduceNe, Int.reduceTDiv, Int.reduceTMod, implies_true, putL, appN, appX, appC, Eng.Fi, reduceCtorEq, exists_eq_left', exists_eq_left, if_true, if_false, List.replicate, Nat.reduceAdd, Nat.reduceSub, Nat.reduceMul, Nat.reduceLeDiff, Nat.reduceLT, Nat.reduceEqDiff]
        exact go2 _ (j + 1, false) ⟨hlt2, ⟨fun q => by simp at q, fun q => absurd (hns.2 (.inl ht')) q⟩⟩ (by simp only; omega) (Wkn.keep [0, 3, 5, 6, 7, 8] rfl)
    · have u1 : ((j : Int) < (b.length : Int)) = False := eq_false (by omega)
      rw [List.take_of_length_le hge2] at ht
      cases t with
      | true =>
        have ht' := ht.1 rfl
        rw [if_neg ht'] at hs
        cases out with
        | nil =>
          simp only [List.map_cons, List.map_nil, subs, List.cons.injEq] at hfo
          simp only [List.length_nil, List.length_cons, Nat.zero_add] at m1 m2
          simp +contextual -implicitDefEqProofs (maxSteps := 2000000) only [S_q2, gA, gH, u1, e3, rs_nil, rs_t, rs_f, ag_nils, ag_sl, ag_vs, ag_str, ag_ptr, ag_nilp, ag_vp, ag_fun, m1, m2, List.length_map, List.map_cons, List.map_nil, ruB, rh_no, Int.reduceLT, Int.reduceLE, Int.reduceAdd, Int.reduceSub, Int.reduceMul, Int.reduceNeg, Int.reduceToNat, Int.reduceEq, Int.reduceNe, Int.reduceTDiv, Int.reduceTMod, implies_true, putL, appN, appX, appC, Eng.Fi, reduceCtorEq, exists_eq_left', exists_eq_left, if_true, if_false, List.replicate, Nat.reduceAdd, Nat.reduceSub, Nat.reduceMul, Nat.reduceLeDiff, Nat.reduceLT, Nat.reduceEqDiff]
          exact go _ (k + 1, [] ++ [(k : Int)]) ⟨hlt, hs.symm⟩ (by simp only; omega) (Wkn.to ⟨0, [(1, 0)], [], 1, [0, 3, 5, 6]⟩ rfl rfl (by simp [Wk.st, keepT, memN, Wk.fate, Wk.fate0, assoc, getE, Wk.hp, ABlk.sub, sub1, subs, S_q1, gA, gH, hfo, free_L, free_I, subs_append]))
          
        | cons z0 zr =>
          simp only [List.map_cons, List.map_nil, subs, List.cons.injEq] at hfo
          simp only [List.length_nil, List.length_cons, Nat.zero_add] at m1 m2
          simp +contextual -implicitDefEqProofs (maxSteps := 2000000) only [S_q2, gA, gH, u1, e3, rs_nil, rs_t, rs_f, ag_nils, ag_sl, ag_vs, ag_str, ag_ptr, ag_nilp, ag_vp, ag_fun, m1, m2, List.length_map, List.map_cons, List.map_nil, ruB, rh_no, Int.reduceLT, Int.reduceLE, Int.reduceAdd, Int.reduceSub, Int.reduceMul, Int.reduceNeg, Int.reduceToNat, Int.reduceEq, Int.reduceNe, Int.reduceTDiv, Int.reduceTMod, implies_true, putL, appN, appX, appC, Eng.Fi, reduceCtorEq, exists_eq_left', exists_eq_left, if_true, if_false, List.replicate, Nat.reduceAdd, Nat.reduceSub, Nat.reduceMul, Nat.reduceLeDiff, Nat.reduceLT, Nat.reduceEqDiff]
          exact go _ (k + 1, (z0 :: zr) ++ [(k : Int)]) ⟨hlt, hs.symm⟩ (by simp only; omega) (Wkn.to ⟨0, [(1, 0)], [], 1, [0, 3, 5, 6]⟩ rfl rfl (by simp [Wk.st, keepT, memN, Wk.fate, Wk.fate0, assoc, getE, Wk.hp, ABlk.sub, sub1, subs, S_q1, gA, gH, hfo, free_L, free_I, subs_append]))
          
      | false =>
        have ht' : neP k q0 b := Decidable.byContradiction fun q => by have := ht.2 q; simp at this
        rw [if_pos ht', List.append_nil] at hs
        simp +contextual -implicitDefEqProofs (maxSteps := 2000000) only [S_q2, u1, e3, List.length_map, ruB, rh_no, Int.reduceLT, Int.reduceLE, Int.reduceAdd, Int.reduceSub, Int.reduceMul, Int.reduceNeg, Int.reduceToNat, Int.reduceEq, Int.reduceNe, Int.reduceTDiv, Int.reduceTMod, implies_true, putL, appN, appX, appC, Eng.Fi, reduceCtorEq, exists_eq_left', exists_eq_left, if_true, if_false, List.replicate, Nat.reduceAdd, Nat.reduceSub, Nat.reduceMul, Nat.reduceLeDiff, Nat.reduceLT, Nat.reduceEqDiff]
        exact go _ (k + 1, out) ⟨hlt, hs.symm⟩ (by simp only; omega) (Wkn.keep [0, 3, 5, 6] rfl)
  · have e1 : ((k : Int) < (m.length : Int)) = False := eq_false (by omega)
    have ek : k = m.length := by omega
    subst ek
    rw [← ho]
    cases out with
    | nil =>
      simp only [List.map_cons, List.map_nil, subs, List.cons.injEq] at hfo
      simp +contextual -implicitDefEqProofs (maxSteps := 2000000) only [S_q1, gA, gH, e1, List.length_map, List.map_cons, List.map_nil, tk_I0, Nat.le_refl, hfo, free_I, ruB, rh_no, Int.reduceLT, Int.reduceLE, Int.reduceAdd, Int.reduceSub, Int.reduceMul, Int.reduceNeg, Int.reduceToNat, Int.reduceEq, Int.reduceNe, Int.reduceTDiv, Int.reduceTMod, implies_true, putL, appN, appX, appC, Eng.Fi, reduceCtorEq, exists_eq_left', exists_eq_left, if_true, if_false, List.replicate, Nat.reduceAdd, Nat.reduceSub, Nat.reduceMul, Nat.reduceLeDiff, Nat.reduceLT, Nat.reduceEqDiff]
      
    | cons z0 zr =>
      simp only [List.map_cons, List.map_nil, subs, List.cons.injEq] at hfo
      simp +contextual -implicitDefEqProofs (maxSteps := 2000000) only [S_q1, gA, gH, e1, List.length_map, List.map_cons, List.map_nil, tk_I0, Nat.le_refl, hfo, free_I, ruB, rh_no, Int.reduceLT, Int.reduceLE, Int.reduceAdd, Int.reduceSub, Int.reduceMul, Int.reduceNeg, Int.reduceToNat, Int.reduceEq, Int.reduceNe, Int.reduceTDiv, Int.reduceTMod, implies_true, putL, appN, appX, appC, Eng.Fi, reduceCtorEq, exists_eq_left', exists_eq_left, if_true, if_false, List.replicate, Nat.reduceAdd, Nat.reduceSub, Nat.reduceMul, Nat.reduceLeDiff, Nat.reduceLT, Nat.reduceEqDiff]
      
def cf_rCertain : List AV → Option AV
  | [.vs m_v] => onL dL m_v fun m => if (cmV m).2 = 0 then some (.vs ((ceL m).map eI)) else none
  | _ => none
theorem g_rCertain : Fn P 40 cf_rCertain := fun args v hh => by
  unfold cf_rCertain at hh; split at hh
  · obtain ⟨m, rfl, hh1⟩ := onL_inv dL_inv hh
    split at hh1
    · rename_i hc; have hk := Option.some.inj hh1; subst hk; exact k_rCertain _ hc
    · cases hh1
  · cases hh
theorem x_rCertain (m : List L) (hc : ((cmV m).2 = 0) = True) : cf_rCertain [.vs (m.map eL)] = some (.vs ((ceL m).map eI)) := by
  simp only [cf_rCertain, onL_map dL_e]
  exact if_pos (by rw [hc]; trivial)
def smP (m : List L) : Prop := m.length ≤ 8 ∧ (∀ r ∈ m, r.length ≤ 8) ∧ (¬ (cmV m).2 = 0 ∨ m.length ≤ 5)
instance (m : List L) : Decidable (smP m) := by unfold smP; infer_instance
def S_sm (m : List L) (k : Nat) : AState := ⟨[.vs (m.map eL), .any, .any, I k, .any, .any, .any, .any, .any, .any, .any, .any, .any, .any, .any, .any, .any, .any, .any, .any, .any, .any, .any, .any, .any, .any, .any], [], 0⟩
theorem k_small6 (m : List L) : FOk P 32 [.vs (m.map eL)] (.bool (decide (smP m))) := by
  by_cases h8 : 8 < m.length
  · have h8' : ((8 : Int) < (m.length : Int)) = True := eq_true (by omega)
    have hs : decide (smP m) = false := decide_eq_false fun q => by have := q.1; omega
    rw [hs]
    refine c32.fok (by simp only [subs, sub1, free_L]) (Cor.run (addC_good g_rMatrixErr (noC_good _)) (noHx_good _) hm ?_)
    simp +contextual -implicitDefEqProofs (maxSteps := 2000000) only [bg_eq, a32, List.length_map, h8', ruB, rh_no, Int.reduceLT, Int.reduceLE, Int.reduceAdd, Int.reduceSub, Int.reduceMul, Int.reduceNeg, Int.reduceToNat, Int.reduceEq, Int.reduceNe, Int.reduceTDiv, Int.reduceTMod, implies_true, putL, appN, appX, appC, Eng.Fi, reduceCtorEq, exists_eq_left', exists_eq_left, if_true, if_false, List.replicate, Nat.reduceAdd, Nat.reduceSub, Nat.reduceMul, Nat.reduceLeDiff, Nat.reduceLT, Nat.reduceEqDiff]
  · have h8' : ((8 : Int) < (m.length : Int)) = False := eq_false (by omega)
    refine c32.fok (by simp only [subs, sub1, free_L]) (Cor.run (addC_good g_rMatrixErr (noC_good _)) (noHx_good _) hm ?_)
    simp +contextual -implicitDefEqProofs (maxSteps := 2000000) only [bg_eq, a32, List.length_map, h8', Int.natCast_zero, ruB, rh_no, Int.reduceLT, Int.reduceLE, Int.reduceAdd, Int.reduceSub, Int.reduceMul, Int.reduceNeg, Int.reduceToNat, Int.reduceEq, Int.reduceNe, Int.reduceTDiv, Int.reduceTMod, implies_true, putL, appN, appX, appC, Eng.Fi, reduceCtorEq, exists_eq_left', exists_eq_left, if_true, if_false, List.replicate, Nat.reduceAdd, Nat.reduceSub, Nat.reduceMul, Nat.reduceLeDiff, Nat.reduceLT, Nat.reduceEqDiff]
    refine Cor.lp (addC_good g_rMatrixErr (noC_good _)) (noHx_good _) hm (S_sm m) (fun k => k ≤ m.length ∧ ∀ r ∈ m.take k, r.length ≤ 8) (fun k => m.length - k) (a := 0) ⟨Nat.zero_le _, by simp⟩ (Wkn.keep [0, 3] rfl) ?_
    rintro f k ⟨hk, hf⟩ go
    rcases Nat.lt_or_ge k m.length with h | h
    · have e1 : decide ((k : Int) < (m.length : Int)) = true := lt_t h
      have e2 : (m.map eL)[k]? = some (eL m[k]) := get_e eL m h
      have e3 : IntKind.wrap .i64 ((k : Int) + 1) = ((k + 1 : Nat) : Int) := suc_w (by omega)
      have hmem : m[k] ∈ m := by simp
      have htk := List.take_succ_eq_append_getElem h
      generalize m[k] = r at *
      by_cases c1 : 8 < r.length
      · have c1' : ((8 : Int) < (r.length : Int)) = True := eq_true (by omega)
        have hs : decide (smP m) = false := decide_eq_false fun q => by have := q.2.1 r hmem; omega
        rw [hs]
        simp +contextual -implicitDefEqProofs (maxSteps := 2000000) only [S_sm, e1, e2, e3, c1', List.length_map, ruB, rh_no, Int.reduceLT, Int.reduceLE, Int.reduceAdd, Int.reduceSub, Int.reduceMul, Int.reduceNeg, Int.reduceToNat, Int.reduceEq, Int.reduceNe, Int.reduceTDiv, Int.reduceTMod, implies_true, putL, appN, appX, appC, Eng.Fi, reduceCtorEq, exists_eq_left', exists_eq_left, if_true, if_false, List.replicate, Nat.reduceAdd, Nat.reduceSub, Nat.reduceMul, Nat.reduceLeDiff, Nat.reduceLT, Nat.reduceEqDiff]
      · have c1' : ((8 : Int) < (r.length : Int)) = False := eq_false (by omega)
        simp +contextual -implicitDefEqProofs (maxSteps := 2000000) only [S_sm, e1, e2, e3, c1', List.length_map, ruB, rh_no, Int.reduceLT, Int.reduceLE, Int.reduceAdd, Int.reduceSub, Int.reduceMul, Int.reduceNeg, Int.reduceToNat, Int.reduceEq, Int.reduceNe, Int.reduceTDiv, Int.reduceTMod, implies_true, putL, appN, appX, appC, Eng.Fi, reduceCtorEq, exists_eq_left', exists_eq_left, if_true, if_false, List.replicate, Nat.reduceAdd, Nat.reduceSub, Nat.reduceMul, Nat.reduceLeDiff, Nat.reduceLT, Nat.reduceEqDiff]
        refine go _ (k + 1) ⟨h, fun x hx => ?_⟩ (by omega) (Wkn.keep [0, 3] rfl)
        rw [htk] at hx
        rcases List.mem_append.1 hx with hx | hx
        · exact hf x hx
        · rw [List.mem_singleton.1 hx]; omega
    · have e1 : decide ((k : Int) < (m.length : Int)) = false := lt_f h
      rw [List.take_of_length_le h] at hf
      have hs : decide (smP m) = decide (¬ (cmV m).2 = 0 ∨ (m.length : Int) ≤ 5) := decide_eq_decide.2 ⟨fun q => q.2.2.imp id (fun q => by omega), fun q => ⟨by omega, hf, q.imp id (fun q => by omega)⟩⟩
      have y := x_rMatrixErr m (by simp only [eq_iff_iff, iff_true]; exact ⟨by omega, fun r hr => by have := hf r hr; omega⟩)
      rw [hs]
      simp +contextual -implicitDefEqProofs (maxSteps := 2000000) only [S_sm, e1, y, List.length_map, ruB, rh_no, Int.reduceLT, Int.reduceLE, Int.reduceAdd, Int.reduceSub, Int.reduceMul, Int.reduceNeg, Int.reduceToNat, Int.reduceEq, Int.reduceNe, Int.reduceTDiv, Int.reduceTMod, implies_true, putL, appN, appX, appC, Eng.Fi, reduceCtorEq, exists_eq_left', exists_eq_left, if_true, if_false, List.replicate, Nat.reduceAdd, Nat.reduceSub, Nat.reduceMul, Nat.reduceLeDiff, Nat.reduceLT, Nat.reduceEqDiff]
def cf_small6 : List AV → Option AV
  | [.vs m_v] => onL dL m_v fun m => some (.bool (decide (smP m)))
  | _ => none
theorem g_small6 : Fn P 32 cf_small6 := fun args v hh => by
  unfold cf_small6 at hh; split at hh
  · obtain ⟨m, rfl, hh1⟩ := onL_inv dL_inv hh
    have hk := Option.some.inj hh1; subst hk; exact k_small6 _
  · cases hh
theorem x_small6 (m : List L) : cf_small6 [.vs (m.map eL)] = some (.bool (decide (smP m))) := by
  simp only [cf_small6, onL_map dL_e]
def S_cy (m out : List L) (k : Nat) : AState := ⟨[.vs (m.map eL), .any, .any, gA 0 1 (out.map eL), I k, .any, .any, .any, .any, .any, .any, .any, .any, .any, .any, .any, .any, .any, .any, .any], gH 0 38 1 (out.map eL), 1⟩
theorem k_CopyM0 (m R : List L) (hR : R = m) (hm0 : m.length ≤ 1000 ∧ ∀ r ∈ m, r.length ≤ 1000) : FOk P 34 [.vs (m.map eL)] (.vs (R.map eL)) := by
  obtain ⟨hl, hr⟩ := hm0
  refine c34.fok (by simp only [subs, sub1, free_L]) (Cor.run (addC_good g_CopyInts (noC_good _)) (noHx_good _) hm ?_)
  simp +contextual -implicitDefEqProofs (maxSteps := 2000000) only [bg_eq, a34, Int.natCast_zero, ruB, rh_no, Int.reduceLT, Int.reduceLE, Int.reduceAdd, Int.reduceSub, Int.reduceMul, Int.reduceNeg, Int.reduceToNat, Int.reduceEq, Int.reduceNe, Int.reduceTDiv, Int.reduceTMod, implies_true, putL, appN, appX, appC, Eng.Fi, reduceCtorEq, exists_eq_left', exists_eq_left, if_true, if_false, List.replicate, Nat.reduceAdd, Nat.reduceSub, Nat.reduceMul, Nat.reduceLeDiff, Nat.reduceLT, Nat.reduceEqDiff]
  refine Cor.lp (addC_good g_CopyInts (noC_good _)) (noHx_good _) hm (fun q : Nat × List L => S_cy m q.2 q.1) (fun q => q.1 ≤ m.length ∧ q.2 = m.take q.1) (fun q => m.length - q.1) (a := (0, [])) ⟨Nat.zero_le _, by simp⟩ (Wkn.to ⟨0, [], [], 1, [0, 3, 4]⟩ rfl rfl (by simp [Wk.st, keepT, memN, Wk.fate, Wk.fate0, assoc, getE, Wk.hp, ABlk.sub, sub1, subs, S_cy, gA, gH, free_L])) ?_
  rintro f ⟨k, out⟩ ⟨hk, ho⟩ go
  simp only at hk ho go ⊢
  have hol : out.length ≤ k := by rw [ho]; simp; omega
  have hfo := fun φ => free_L φ out
  rcases Nat.lt_or_ge k m.length with h | h
  · have e1 : decide ((k : Int) < (m.length : Int)) = true := lt_t h
    have e2 : (m.map eL)[k]? = some (eL m[k]) := get_e eL m h
    have e3 : IntKind.wrap .i64 ((k : Int) + 1) = ((k + 1 : Nat) : Int) := suc_w (by omega)
    have y := x_CopyInts m[k] (by simp only [eq_iff_iff, iff_true]; exact hr _ (by simp))
    have hs : m.take (k + 1) = out ++ [m[k]] := by rw [List.take_succ_eq_append_getElem h, ho]
    obtain ⟨r, hre⟩ : ∃ r, m[k] = r := ⟨_, rfl⟩
    rw [hre] at e2 y hs
    have m1 : (out.length + 1 ≤ maxLen) = True := mx (by omega)
    have m2 : ((out.length + 1) * 24 ≤ 140737488355328) = True := by simp only [eq_iff_iff, iff_true]; omega
    cases out with
    | nil =>
      simp only [List.map_cons, List.map_nil, subs, List.cons.injEq] at hfo
      simp only [List.length_nil, List.length_cons, Nat.zero_add] at m1 m2
      simp +contextual -implicitDefEqProofs (maxSteps := 2000000) only [S_cy, gA, gH, e1, e2, e3, y, rs_nil, rs_t, rs_f, ag_nils, ag_sl, ag_vs, ag_str, ag_ptr, ag_nilp, ag_vp, ag_fun, m1, m2, List.length_map, List.map_cons, List.map_nil, ruB, rh_no, Int.reduceLT, Int.reduceLE, Int.reduceAdd, Int.reduceSub, Int.reduceMul, Int.reduceNeg, Int.reduceToNat, Int.reduceEq, Int.reduceNe, Int.reduceTDiv, Int.reduceTMod, implies_true, putL, appN, appX, appC, Eng.Fi, reduceCtorEq, exists_eq_left', exists_eq_left, if_true, if_false, List.replicate, Nat.reduceAdd, Nat.reduceSub, Nat.reduceMul, Nat.reduceLeDiff, Nat.reduceLT, Nat.reduceEqDiff]
      exact go _ (k + 1, [] ++ [r]) ⟨h, hs.symm⟩ (by simp only; omega) (Wkn.to ⟨0, [(1, 0)], [], 1, [0, 3, 4]⟩ rfl rfl (by simp [Wk.st, keepT, memN, Wk.fate, Wk.fate0, assoc, getE, Wk.hp, ABlk.sub, sub1, subs, S_cy, gA, gH, hfo, free_L, free_I, subs_append]))
      
    | cons z0 zr =>
      simp only [List.map_cons, List.map_nil, subs, List.cons.injEq] at hfo
      simp only [List.length_nil, List.length_cons, Nat.zero_add] at m1 m2
      simp +contextual -implicitDefEqProofs (maxSteps := 2000000) only [S_cy, gA, gH, e1, e2, e3, y, rs_nil, rs_t, rs_f, ag_nils, ag_sl, ag_vs, ag_str, ag_ptr, ag_nilp, ag_vp, ag_fun, m1, m2, List.length_map, List.map_cons, List.map_nil, ruB, rh_no, Int.reduceLT, Int.reduceLE, Int.reduceAdd, Int.reduceSub, Int.reduceMul, Int.reduceNeg, Int.reduceToNat, Int.reduceEq, Int.reduceNe, Int.reduceTDiv, Int.reduceTMod, implies_true, putL, appN, appX, appC, Eng.Fi, reduceCtorEq, exists_eq_left', exists_eq_left, if_true, if_false, List.replicate, Nat.reduceAdd, Nat.reduceSub, Nat.reduceMul, Nat.reduceLeDiff, Nat.reduceLT, Nat.reduceEqDiff]
      exact go _ (k + 1, (z0 :: zr) ++ [r]) ⟨h, hs.symm⟩ (by simp only; omega) (Wkn.to ⟨0, [(1, 0)], [], 1, [0, 3, 4]⟩ rfl rfl (by simp [Wk.st, keepT, memN, Wk.fate, Wk.fate0, assoc, getE, Wk.hp, ABlk.sub, sub1, subs, S_cy, gA, gH, hfo, free_L, free_I, subs_append]))
      
  · have e1 : decide ((k : Int) < (m.length : Int)) = false := lt_f h
    rw [List.take_of_length_le h] at ho
    rw [show R = out from hR.trans ho.symm]
    clear hR ho
    cases out with
    | nil =>
      simp only [List.map_cons, List.map_nil, subs, List.cons.injEq] at hfo
      simp +contextual -implicitDefEqProofs (maxSteps := 2000000) only [S_cy, gA, gH, e1, List.length_map, List.map_cons, List.map_nil, tk_L0, Nat.le_refl, hfo, free_L, free_I, ruB, rh_no, Int.reduceLT, Int.reduceLE, Int.reduceAdd, Int.reduceSub, Int.reduceMul, Int.reduceNeg, Int.reduceToNat, Int.reduceEq, Int.reduceNe, Int.reduceTDiv, Int.reduceTMod, implies_true, putL, appN, appX, appC, Eng.Fi, reduceCtorEq, exists_eq_left', exists_eq_left, if_true, if_false, List.replicate, Nat.reduceAdd, Nat.reduceSub, Nat.reduceMul, Nat.reduceLeDiff, Nat.reduceLT, Nat.reduceEqDiff]
      
    | cons z0 zr =>
      simp only [List.map_cons, List.map_nil, subs, List.cons.injEq] at hfo
      simp +contextual -implicitDefEqProofs (maxSteps := 2000000) only [S_cy, gA, gH, e1, List.length_map, List.map_cons, List.map_nil, tk_L0, Nat.le_refl, hfo, free_L, free_I, ruB, rh_no, Int.reduceLT, Int.reduceLE, Int.reduceAdd, Int.reduceSub, Int.reduceMul, Int.reduceNeg, Int.reduceToNat, Int.reduceEq, Int.reduceNe, Int.reduceTDiv, Int.reduceTMod, implies_true, putL, appN, appX, appC, Eng.Fi, reduceCtorEq, exists_eq_left', exists_eq_left, if_true, if_false, List.replicate, Nat.reduceAdd, Nat.reduceSub, Nat.reduceMul, Nat.reduceLeDiff, Nat.reduceLT, Nat.reduceEqDiff]
      
theorem k_CopyMatrix (m : List L) (hm0 : m.length ≤ 1000 ∧ ∀ r ∈ m, r.length ≤ 1000) : FOk P 34 [.vs (m.map eL)] (.vs (m.map eL)) := k_CopyM0 m m rfl hm0
def cf_CopyMatrix : List AV → Option AV
  | [.vs m_v] => onL dL m_v fun m => if m.length ≤ 1000 ∧ ∀ r ∈ m, r.length ≤ 1000 then some (.vs (m.map eL)) else none
  | _ => none
theorem g_CopyMatrix : Fn P 34 cf_CopyMatrix := fun args v hh => by
  unfold cf_CopyMatrix at hh; split at hh
  · obtain ⟨m, rfl, hh1⟩ := onL_inv dL_inv hh
    split at hh1
    · rename_i hc; have hk := Option.some.inj hh1; subst hk; exact k_CopyMatrix _ hc
    · cases hh1
  · cases hh
theorem x_CopyMatrix (m : List L) (hc : (m.length ≤ 1000 ∧ ∀ r ∈ m, r.length ≤ 1000) = True) : cf_CopyMatrix [.vs (m.map eL)] = some (.vs (m.map eL)) := by
  simp only [cf_CopyMatrix, onL_map dL_e]
  exact if_pos (by rw [hc]; trivial)
end Wa
