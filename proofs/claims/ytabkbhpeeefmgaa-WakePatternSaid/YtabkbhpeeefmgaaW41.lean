import Derived.Test.YtabkbhpeeefmgaaEngS9
import Derived.Test.YtabkbhpeeefmgaaW38
open Go Go.Proofs Eng
set_option maxRecDepth 100000
set_option linter.unusedSimpArgs false
set_option linter.unusedVariables false
def a49 : AC := .seq (.ops false [] [⟨some 3, .box 46 3 1 true, [.t 0], none⟩, ⟨some 4, .box 90 3 1 true, [.t 1], none⟩, ⟨some 5, .box 44 2 1 true, [.t 2], none⟩, ⟨some 6, .alloc 95 2 [.agg [.int .i64 0, .int .i64 0]], [], none⟩, ⟨some 7, .p (.mov), [.c (.int .i64 0)], none⟩]) (.seq (.seq (.ops true [] [⟨some 14, .load 3 true, [.t 3], none⟩, ⟨some 15, .call 112, [.t 14], none⟩, ⟨some 16, .load 3 true, [.t 4], none⟩, ⟨some 17, .call 113, [.t 16], none⟩, ⟨some 18, .load 2 true, [.t 5], none⟩, ⟨some 19, .call 114, [.t 18], none⟩, ⟨some 20, .fbs 1, [.t 15, .t 17, .t 19], none⟩, ⟨some 21, .call 79, [.t 20], none⟩, ⟨some 8, .p (.mov), [.t 21], none⟩]) (.seq (.ops false [] [⟨some 22, .p (.mov), [.t 8], none⟩, ⟨some 23, .p (.binI .neq), [.t 22, .c (.int .i64 0)], none⟩]) (.cond (.t 23) (.seq (.ops false [] [⟨some 24, .p (.build [.int .i64 0, .int .i64 0] []), [], none⟩, ⟨some 25, .p (.mov), [.t 8], none⟩, ⟨none, .store 2 true, [.t 6, .t 24], none⟩, ⟨some 7, .p (.mov), [.t 25], none⟩]) (.ret)) (.skip)))) (.seq (.ops false [] [⟨some 27, .load 3 true, [.t 3], none⟩, ⟨some 28, .load 3 true, [.t 4], none⟩, ⟨some 29, .load 2 true, [.t 5], none⟩, ⟨some 30, .call 115, [.t 27, .t 28, .t 29], none⟩, ⟨some 26, .p (.mov), [.t 30], none⟩, ⟨some 31, .p (.ext 0), [.t 26], none⟩, ⟨some 32, .p (.ext 1), [.t 26], none⟩, ⟨some 9, .p (.mov), [.t 31], none⟩, ⟨some 10, .p (.mov), [.t 32], none⟩]) (.seq (.ops false [] [⟨some 33, .p (.mov), [.t 9], none⟩, ⟨some 34, .p (.mov), [.t 10], none⟩, ⟨some 11, .p (.mov), [.t 33], none⟩, ⟨some 12, .p (.mov), [.t 34], none⟩]) (.seq (.block 0 (.loop (.seq (.seq (.ops false [] [⟨some 35, .p (.mov), [.t 12], none⟩, ⟨some 36, .p (.binI .neq), [.t 35, .c (.int .i64 0)], none⟩]) (.cond (.t 36) (.skip) (.exit 0))) (.block 1 (.ops true [] [⟨some 37, .p (.mov), [.t 12], none⟩, ⟨some 38, .p (.mov), [.t 11], none⟩, ⟨some 39, .p (.mov), [.t 12], none⟩, ⟨some 40, .p (.binI .rem), [.t 38, .t 39], none⟩, ⟨some 11, .p (.mov), [.t 37], none⟩, ⟨some 12, .p (.mov), [.t 40], none⟩]))))) (.seq (.ops false [] [⟨some 41, .p (.mov), [.t 11], none⟩, ⟨some 42, .p (.mov), [.t 11], none⟩, ⟨some 43, .p (.neg), [.t 42], none⟩, ⟨some 44, .p (.mm true), [.t 41, .t 43], none⟩, ⟨some 11, .p (.mov), [.t 44], none⟩]) (.seq (.ops true [] [⟨some 45, .p (.mov), [.t 9], none⟩, ⟨some 46, .p (.mov), [.t 11], none⟩, ⟨some 47, .p (.binI .quo), [.t 45, .t 46], none⟩, ⟨some 48, .p (.mov), [.t 10], none⟩, ⟨some 49, .p (.mov), [.t 11], none⟩, ⟨some 50, .p (.binI .quo), [.t 48, .t 49], none⟩, ⟨some 51, .p (.build [.int .i64 0, .int .i64 0] [(0, 1), (1, 1)]), [.t 47, .t 50], none⟩, ⟨some 13, .alloc 95 2 [.agg [.int .i64 0, .int .i64 0]], [], none⟩, ⟨none, .store 2 true, [.t 13, .t 51], none⟩]) (.seq (.seq (.ops false [] [⟨some 52, .p (.faddr 0), [.t 13], none⟩, ⟨some 53, .load 1 false, [.t 52], none⟩, ⟨some 54, .call 116, [.t 53, .c (.int .i64 1000000000)], none⟩, ⟨some 55, .p (.notB), [.t 54], none⟩]) (.cond (.t 55) (.seq (.ops false [] [⟨some 56, .p (.build [.int .i64 0, .int .i64 0] []), [], none⟩, ⟨none, .store 2 true, [.t 6, .t 56], none⟩, ⟨some 7, .p (.mov), [.c (.int .i64 8)], none⟩]) (.ret)) (.skip))) (.seq (.ops false [] [⟨some 57, .load 2 true, [.t 13], none⟩, ⟨none, .store 2 true, [.t 6, .t 57], none⟩, ⟨some 7, .p (.mov), [.c (.int .i64 0)], none⟩]) (.ret)))))))))
theorem c49 : FnC Try.prog 49 58 a49 [.cell 6 2 true, .tmp 7] := ⟨Try.call49, _, _, Try.func49, rfl, by kernel_rfl, by kernel_rfl, rfl⟩
namespace Wa
def rbE (v : Vo) (s : Su) (p : Pt) : Int := firstE [voE v, suE s, ptE p]
def gcN (n d : Int) : Nat := Nat.gcd n.natAbs d.natAbs
def fq (n d : Int) : Int × Int := (n.tdiv (gcN n d : Int), d.tdiv (gcN n d : Int))
def sz9 (x : Int) : Prop := -1000000000 ≤ x ∧ x ≤ 1000000000
instance (x : Int) : Decidable (sz9 x) := by unfold sz9; infer_instance
def fqV (q : Int × Int) : AV := if sz9 q.1 then .tup [.agg [I q.1, I q.2], I 0] else .tup [.agg [I 0, I 0], I 8]
def rbV (v : Vo) (s : Su) (p : Pt) : AV := if rbE v s p = 0 then fqV (fq (rnV v s p) (rdV v s p)) else .tup [.agg [I 0, I 0], I (rbE v s p)]
theorem rbE_z {v : Vo} {s : Su} {p : Pt} (h : rbE v s p = 0) : raB v s p := by
  have z := firstE_zero h
  have a1 := voE_z (z (voE v) (by simp))
  have a2 := suE_z (z (suE s) (by simp))
  have a3 : ptR p := unl_zero (z (ptE p) (by simp)) (by decide)
  unfold voR siR at a1
  exact ⟨⟨⟨by omega, a1.1.2⟩, a1.2⟩, a2, a3⟩
theorem gc_step {a b : Int} (h : ¬ b = 0) : Nat.gcd b.natAbs (a.tmod b).natAbs = Nat.gcd a.natAbs b.natAbs := by
  rw [Int.natAbs_tmod, Nat.gcd_comm a.natAbs, Nat.gcd_comm b.natAbs, ← Nat.gcd_rec]
def S_gc (n d a b : Int) : AState := ⟨[.any, .any, .any, .any, .any, .any, .ptr 0 2 0 0, .any, .any, I n, I d, I a, I b, .any, .any, .any, .any, .any, .any, .any, .any, .any, .any, .any, .any, .any, .any, .any, .any, .any, .any, .any, .any, .any, .any, .any, .any, .any, .any, .any, .any, .any, .any, .any, .any, .any, .any, .any, .any, .any, .any, .any, .any, .any, .any, .any, .any, .any], [⟨0, 0, .rows 95 2 [.agg [I 0, I 0]]⟩], 1⟩
set_option maxHeartbeats 1000000 in
theorem k_RadialBy (v : Vo) (s : Su) (p : Pt) : FOk P 49 [eVo v, eSu s, ePt p] (rbV v s p) := by
  have y1 := x_vortexErr v
  have y2 := x_setupErr s.y s.z s.c
  have y3 := x_pointErr p.y p.z
  have e2 : suE ⟨s.y, s.z, s.c⟩ = suE s := rfl
  have e3 : ptE ⟨p.y, p.z⟩ = ptE p := rfl
  rw [e2] at y2
  rw [e3] at y3
  by_cases h0 : rbE v s p = 0
  · rw [rbV, if_pos h0]
    have hb := rbE_z h0
    have hbd := ra_bd hb
    have y4 := x_radial v s p (by simp only [hb])
    have h0' := h0
    unfold rbE at h0'
    generalize rnV v s p = n at *
    generalize rdV v s p = d at *
    refine c49.fok rfl (Cor.run (addC_good g_sized (addC_good g_radial (addC_good g_first (addC_good g_pointErr (addC_good g_setupErr (addC_good g_vortexErr (noC_good _))))))) (noHx_good _) hm ?_)
    simp +contextual -implicitDefEqProofs (maxSteps := 2000000) only [bg_eq, a49, y1, y2, y3, y4, x_first, y_first, h0', not_true_eq_false, ruB, rh_no, Int.reduceLT, Int.reduceLE, Int.reduceAdd, Int.reduceSub, Int.reduceMul, Int.reduceNeg, Int.reduceToNat, Int.reduceEq, Int.reduceNe, Int.reduceTDiv, Int.reduceTMod, implies_true, putL, appN, appX, appC, Eng.Fi, reduceCtorEq, exists_eq_left', exists_eq_left, if_true, if_false, List.replicate, Nat.reduceAdd, Nat.reduceSub, Nat.reduceMul, Nat.reduceLeDiff, Nat.reduceLT, Nat.reduceEqDiff]
    refine Cor.lp (addC_good g_sized (addC_good g_radial (addC_good g_first (addC_good g_pointErr (addC_good g_setupErr (addC_good g_vortexErr (noC_good _))))))) (noHx_good _) hm (fun q : Int × Int => S_gc n d q.1 q.2) (fun q => Nat.gcd q.1.natAbs q.2.natAbs = gcN n d ∧ (-41000000000 ≤ q.1 ∧ q.1 ≤ 41000000000) ∧ (-41000000000 ≤ q.2 ∧ q.2 ≤ 41000000000)) (fun q => q.2.natAbs) (a := (n, d)) ⟨rfl, by simp only; omega, by simp only; omega⟩ (Wkn.to ⟨0, [(3, 0)], [], 1, [6, 9, 10, 11, 12]⟩ rfl rfl (by simp [Wk.st, keepT, memN, Wk.fate, Wk.fate0, assoc, getE, Wk.hp, ABlk.sub, sub1, subs, S_gc])) ?_
    rintro f ⟨a, b⟩ ⟨hg, ha, hbb⟩ go
    simp only at hg ha hbb go ⊢
    by_cases hz : b = 0
    · subst hz
      have hG : (gcN n d : Int) = max a (-a) := by
        rw [← hg]
        simp only [Int.natAbs_zero, Nat.gcd_zero_right]
        omega
      have hpos : 1 ≤ gcN n d := Nat.gcd_pos_of_pos_right _ (by omega)
      have wn : IntKind.wrap .i64 (0 - a) = -a := by rw [wrap64 (by omega) (by omega)]; omega
      have hG0 : ((gcN n d : Int) = 0) = False := eq_false (by omega)
      have q1 : ((fq n d).1).natAbs ≤ n.natAbs := by
        show (n.tdiv (gcN n d : Int)).natAbs ≤ _
        rw [Int.natAbs_tdiv]; exact Nat.div_le_self _ _
      have q2 : ((fq n d).2).natAbs ≤ d.natAbs := by
        show (d.tdiv (gcN n d : Int)).natAbs ≤ _
        rw [Int.natAbs_tdiv]; exact Nat.div_le_self _ _
      have w1 : IntKind.wrap .i64 (n.tdiv (gcN n d : Int)) = (fq n d).1 := wrap64 (by show _ ≤ (fq n d).1; omega) (by show (fq n d).1 ≤ _; omega)
      have w2 : IntKind.wrap .i64 (d.tdiv (gcN n d : Int)) = (fq n d).2 := wrap64 (by show _ ≤ (fq n d).2; omega) (by show (fq n d).2 ≤ _; omega)
      generalize fq n d = q at *
      have ys := x_sized' q.1 1000000000 (by simp) (-1000000000) rfl
      generalize (gcN n d : Int) = G at *
      by_cases hs : -1000000000 ≤ q.1 ∧ q.1 ≤ 1000000000
      · have hs' := eq_true hs
        rw [show fqV q = .tup [.agg [I q.1, I q.2], I 0] from if_pos hs]
        simp +contextual -implicitDefEqProofs (maxSteps := 2000000) only [S_gc, wn, ← hG, hG0, w1, w2, ys, hs', not_true_eq_false, ruB, rh_no, Int.reduceLT, Int.reduceLE, Int.reduceAdd, Int.reduceSub, Int.reduceMul, Int.reduceNeg, Int.reduceToNat, Int.reduceEq, Int.reduceNe, Int.reduceTDiv, Int.reduceTMod, implies_true, putL, appN, appX, appC, Eng.Fi, reduceCtorEq, exists_eq_left', exists_eq_left, if_true, if_false, List.replicate, Nat.reduceAdd, Nat.reduceSub, Nat.reduceMul, Nat.reduceLeDiff, Nat.reduceLT, Nat.reduceEqDiff]
        done
      · have hs' := eq_false hs
        rw [show fqV q = .tup [.agg [I 0, I 0], I 8] from if_neg hs]
        simp +contextual -implicitDefEqProofs (maxSteps := 2000000) only [S_gc, wn, ← hG, hG0, w1, w2, ys, hs', not_true_eq_false, not_false_eq_true, ruB, rh_no, Int.reduceLT, Int.reduceLE, Int.reduceAdd, Int.reduceSub, Int.reduceMul, Int.reduceNeg, Int.reduceToNat, Int.reduceEq, Int.reduceNe, Int.reduceTDiv, Int.reduceTMod, implies_true, putL, appN, appX, appC, Eng.Fi, reduceCtorEq, exists_eq_left', exists_eq_left, if_true, if_false, List.replicate, Nat.reduceAdd, Nat.reduceSub, Nat.reduceMul, Nat.reduceLeDiff, Nat.reduceLT, Nat.reduceEqDiff]
        done
    · have hz' := eq_false hz
      simp +contextual -implicitDefEqProofs (maxSteps := 2000000) only [S_gc, hz', not_false_eq_true, ruB, rh_no, Int.reduceLT, Int.reduceLE, Int.reduceAdd, Int.reduceSub, Int.reduceMul, Int.reduceNeg, Int.reduceToNat, Int.reduceEq, Int.reduceNe, Int.reduceTDiv, Int.reduceTMod, implies_true, putL, appN, appX, appC, Eng.Fi, reduceCtorEq, exists_eq_left', exists_eq_left, if_true, if_false, List.replicate, Nat.reduceAdd, Nat.reduceSub, Nat.reduceMul, Nat.reduceLeDiff, Nat.reduceLT, Nat.reduceEqDiff]
      have hlt : (a.tmod b).natAbs < b.natAbs := by rw [Int.natAbs_tmod]; exact Nat.mod_lt _ (by omega)
      exact go _ (b, a.tmod b) ⟨by rw [gc_step hz]; exact hg, hbb, by simp only; omega⟩ (by simp only; exact hlt) (Wkn.to ⟨0, [(0, 0)], [], 1, [6, 9, 10, 11, 12]⟩ rfl rfl (by simp [Wk.st, keepT, memN, Wk.fate, Wk.fate0, assoc, getE, Wk.hp, ABlk.sub, sub1, subs, S_gc]))
  · rw [rbV, if_neg h0]
    unfold rbE at h0 ⊢
    refine c49.fok rfl (Cor.run (addC_good g_sized (addC_good g_radial (addC_good g_first (addC_good g_pointErr (addC_good g_setupErr (addC_good g_vortexErr (noC_good _))))))) (noHx_good _) hm ?_)
    simp +contextual -implicitDefEqProofs (maxSteps := 2000000) only [bg_eq, a49, y1, y2, y3, x_first, y_first, h0, not_false_eq_true, ruB, rh_no, Int.reduceLT, Int.reduceLE, Int.reduceAdd, Int.reduceSub, Int.reduceMul, Int.reduceNeg, Int.reduceToNat, Int.reduceEq, Int.reduceNe, Int.reduceTDiv, Int.reduceTMod, implies_true, putL, appN, appX, appC, Eng.Fi, reduceCtorEq, exists_eq_left', exists_eq_left, if_true, if_false, List.replicate, Nat.reduceAdd, Nat.reduceSub, Nat.reduceMul, Nat.reduceLeDiff, Nat.reduceLT, Nat.reduceEqDiff]
def cf_RadialBy : List AV → Option AV
  | [.agg [.int .i64 v_y, .int .i64 v_z, .int .i64 v_s], .agg [.int .i64 s_y, .int .i64 s_z, .int .i64 s_c], .agg [.int .i64 p_y, .int .i64 p_z]] => some (rbV (⟨v_y, v_z, v_s⟩ : Vo) (⟨s_y, s_z, s_c⟩ : Su) (⟨p_y, p_z⟩ : Pt))
  | _ => none
theorem g_RadialBy : Fn P 49 cf_RadialBy := fun args v hh => by
  unfold cf_RadialBy at hh; split at hh
  · have hk := Option.some.inj hh; subst hk; exact k_RadialBy ⟨_, _, _⟩ ⟨_, _, _⟩ ⟨_, _⟩
  · cases hh
theorem x_RadialBy (v : Vo) (s : Su) (p : Pt) : cf_RadialBy [.agg [I v.y, I v.z, I v.s], .agg [I s.y, I s.z, I s.c], .agg [I p.y, I p.z]] = some (rbV v s p) := by
  rfl
end Wa
