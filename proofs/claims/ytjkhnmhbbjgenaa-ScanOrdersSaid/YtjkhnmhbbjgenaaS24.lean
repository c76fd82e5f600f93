import Derived.Test.YtjkhnmhbbjgenaaEngS9
import Derived.Test.YtjkhnmhbbjgenaaS23
open Go Go.Proofs Eng
set_option maxRecDepth 100000
set_option linter.unusedSimpArgs false
set_option linter.unusedVariables false
def a69 : AC := .seq (.ops false [] [⟨some 2, .box 37 2 1 true, [.t 0], none⟩, ⟨some 3, .box 37 2 1 true, [.t 1], none⟩, ⟨some 4, .p (.mov), [.c (.nilslice)], none⟩]) (.seq (.ops false [] [⟨some 8, .load 2 true, [.t 2], none⟩, ⟨some 9, .bsl 37 2, [.t 8], none⟩, ⟨some 5, .p (.mov), [.t 9], none⟩]) (.seq (.ops false [] [⟨some 10, .load 2 true, [.t 2], none⟩, ⟨some 6, .alloc 37 2 [.agg [.int .i64 0, .int .i64 0]], [], none⟩, ⟨none, .store 2 true, [.t 6, .t 10], none⟩]) (.seq (.block 0 (.loop (.seq (.seq (.ops false [] [⟨some 11, .p (.faddr 0), [.t 6], none⟩, ⟨some 12, .load 1 false, [.t 11], none⟩, ⟨some 13, .p (.faddr 0), [.t 3], none⟩, ⟨some 14, .load 1 false, [.t 13], none⟩, ⟨some 15, .p (.binI .neq), [.t 12, .t 14], none⟩]) (.cond (.t 15) (.skip) (.exit 0))) (.block 1 (.seq (.ops false [] [⟨some 7, .p (.mov), [.c (.int .i64 1)], none⟩]) (.seq (.seq (.ops false [] [⟨some 16, .p (.faddr 0), [.t 6], none⟩, ⟨some 17, .load 1 false, [.t 16], none⟩, ⟨some 18, .p (.faddr 0), [.t 3], none⟩, ⟨some 19, .load 1 false, [.t 18], none⟩, ⟨some 20, .call 115, [.t 17, .t 19], none⟩, ⟨some 21, .p (.binI .lss), [.t 20, .c (.int .i64 0)], none⟩]) (.cond (.t 21) (.ops false [] [⟨some 7, .p (.mov), [.c (.int .i64 (-1))], none⟩]) (.skip))) (.seq (.ops false [] [⟨some 22, .p (.faddr 0), [.t 6], none⟩, ⟨some 23, .load 1 false, [.t 22], none⟩, ⟨some 24, .p (.mov), [.t 7], none⟩, ⟨some 25, .p (.binI .add), [.t 23, .t 24], none⟩, ⟨some 26, .call 46, [.t 25, .c (.int .i64 360)], none⟩, ⟨some 27, .p (.faddr 0), [.t 6], none⟩, ⟨none, .store 1 false, [.t 27, .t 26], none⟩]) (.ops false [] [⟨some 28, .p (.mov), [.t 5], none⟩, ⟨some 29, .load 2 true, [.t 6], none⟩, ⟨some 30, .fbs 2, [.t 29], none⟩, ⟨some 31, .app 37 2 16, [.t 28, .t 30], none⟩, ⟨some 5, .p (.mov), [.t 31], none⟩])))))))) (.seq (.block 2 (.loop (.seq (.seq (.ops false [] [⟨some 32, .p (.faddr 1), [.t 6], none⟩, ⟨some 33, .load 1 false, [.t 32], none⟩, ⟨some 34, .p (.faddr 1), [.t 3], none⟩, ⟨some 35, .load 1 false, [.t 34], none⟩, ⟨some 36, .p (.binI .neq), [.t 33, .t 35], none⟩]) (.cond (.t 36) (.skip) (.exit 2))) (.block 3 (.seq (.seq (.ops false [] [⟨some 37, .p (.faddr 1), [.t 6], none⟩, ⟨some 38, .load 1 false, [.t 37], none⟩, ⟨some 39, .p (.faddr 1), [.t 3], none⟩, ⟨some 40, .load 1 false, [.t 39], none⟩, ⟨some 41, .p (.binI .lss), [.t 38, .t 40], none⟩]) (.cond (.t 41) (.ops false [] [⟨some 42, .p (.faddr 1), [.t 6], none⟩, ⟨some 43, .load 1 false, [.t 42], none⟩, ⟨some 44, .p (.binI .add), [.t 43, .c (.int .i64 1)], none⟩, ⟨some 45, .p (.faddr 1), [.t 6], none⟩, ⟨none, .store 1 false, [.t 45, .t 44], none⟩]) (.ops false [] [⟨some 46, .p (.faddr 1), [.t 6], none⟩, ⟨some 47, .load 1 false, [.t 46], none⟩, ⟨some 48, .p (.binI .sub), [.t 47, .c (.int .i64 1)], none⟩, ⟨some 49, .p (.faddr 1), [.t 6], none⟩, ⟨none, .store 1 false, [.t 49, .t 48], none⟩]))) (.ops false [] [⟨some 50, .p (.mov), [.t 5], none⟩, ⟨some 51, .load 2 true, [.t 6], none⟩, ⟨some 52, .fbs 2, [.t 51], none⟩, ⟨some 53, .app 37 2 16, [.t 50, .t 52], none⟩, ⟨some 5, .p (.mov), [.t 53], none⟩])))))) (.seq (.ops false [] [⟨some 54, .p (.mov), [.t 5], none⟩, ⟨some 4, .p (.mov), [.t 54], none⟩]) (.ret))))))
theorem c69 : FnC Try.prog 69 55 a69 [.tmp 4] := ⟨Try.call69, _, _, Try.func69, rfl, by kernel_rfl, by kernel_rfl, rfl⟩
namespace Sc
def S69 (a b : Dr) (p : Dr × List Dr) : AState := ⟨[.any, .any, .any, .ptr 1 2 0 0, .any, .slice 2 2 0 (p.2.length + 1), .ptr 3 2 0 0, .any, .any, .any, .any, .any, .any, .any, .any, .any, .any, .any, .any, .any, .any, .any, .any, .any, .any, .any, .any, .any, .any, .any, .any, .any, .any, .any, .any, .any, .any, .any, .any, .any, .any, .any, .any, .any, .any, .any, .any, .any, .any, .any, .any, .any, .any, .any, .any], [⟨2, 2, .rows 37 2 (eDr a :: p.2.map eDr)⟩, ⟨3, 3, .rows 37 2 [eDr p.1]⟩, ⟨1, 1, .rows 37 2 [eDr b]⟩], 4⟩
theorem arI_neg {a b : Int} : (arI a b < 0) ↔ turnS a b = -1 := by
  have := upw_bd a b
  unfold arI turnS
  split <;> split <;> omega
theorem k_rWay (a b : Dr) (hc : drR a ∧ drR b) : FOk P 69 [eDr a, eDr b] (.vs ((wayL a b).map eDr)) := by
  obtain ⟨ha, hb⟩ := hc
  have hwl := wayL_len ha hb
  refine c69.fok rfl (Cor.run (addC_good g_Mod (addC_good g_rAround (noC_good _))) (noHx_good _) hm ?_)
  simp +contextual -implicitDefEqProofs (maxSteps := 2000000) only [bg_eq, a69, ruB, rh_no, Int.reduceLT, Int.reduceLE, Int.reduceAdd, Int.reduceSub, Int.reduceMul, Int.reduceNeg, Int.reduceToNat, Int.reduceEq, Int.reduceNe, Int.reduceTDiv, Int.reduceTMod, implies_true, putL, appN, appX, appC, Eng.Fi, reduceCtorEq, exists_eq_left', exists_eq_left, if_true, if_false, List.replicate, Nat.reduceAdd, Nat.reduceSub, Nat.reduceMul, Nat.reduceLeDiff, Nat.reduceLT, Nat.reduceEqDiff]
  refine Cor.lp (addC_good g_Mod (addC_good g_rAround (noC_good _))) (noHx_good _) hm (S69 a b) (fun p => (azR p.1.az ∧ p.1.el = a.el) ∧ wayL a b = a :: (p.2 ++ wL1 p.1 b)) (fun p => (turnN p.1.az b.az).toNat) (a := (a, [])) ⟨⟨ha.1, rfl⟩, by rw [wayL_wL1]; rfl⟩ (Wkn.trans (Wkn.sub (hp2 := [⟨2, 2, .rows 37 2 [eDr a]⟩, ⟨3, 3, .rows 37 2 [eDr a]⟩, ⟨1, 1, .rows 37 2 [eDr b]⟩]) (by intro e he; simp only [List.mem_cons, List.not_mem_nil, or_false] at he ⊢; rcases he with rfl | rfl | rfl <;> simp)) (Wkn.to ⟨0, [(2, 2), (3, 3), (1, 1)], [], 4, [3, 5, 6]⟩ rfl rfl (by simp [Wk.st, keepT, memN, Wk.fate, Wk.fate0, assoc, getE, Wk.hp, ABlk.sub, sub1, subs, S69]))) ?_
  rintro f ⟨d, r⟩ ⟨⟨hd, hel⟩, hf⟩ go
  simp only at hd hel hf
  have hrl : r.length ≤ 450 := by rw [hf] at hwl; simp only [List.length_cons, List.length_append] at hwl; omega
  have m1 : (r.length + 1 + 1 ≤ maxLen) = True := mx (by omega)
  have m2 : ((r.length + 1 + 1) * 16 ≤ 140737488355328) = True := by simp only [eq_iff_iff, iff_true]; omega
  have t0 : (r.map eDr).length = r.length := by simp
  have t1 : (r.length ≤ (r.map eDr).length) = True := by simp
  have t2 : (r.map eDr).take r.length = r.map eDr := by rw [List.take_of_length_le]; simp
  by_cases hne : d.az = b.az
  · have n0 : (d.az = b.az) = True := eq_true hne
    rw [wL1_end hb.1 hne] at hf
    simp +contextual -implicitDefEqProofs (maxSteps := 2000000) only [S69, n0, not_true_eq_false, ruB, rh_no, Int.reduceLT, Int.reduceLE, Int.reduceAdd, Int.reduceSub, Int.reduceMul, Int.reduceNeg, Int.reduceToNat, Int.reduceEq, Int.reduceNe, Int.reduceTDiv, Int.reduceTMod, implies_true, putL, appN, appX, appC, Eng.Fi, reduceCtorEq, exists_eq_left', exists_eq_left, if_true, if_false, List.replicate, Nat.reduceAdd, Nat.reduceSub, Nat.reduceMul, Nat.reduceLeDiff, Nat.reduceLT, Nat.reduceEqDiff]
    refine Cor.lp (addC_good g_Mod (addC_good g_rAround (noC_good _))) (noHx_good _) hm (S69 a b) (fun p => ((azR p.1.az ∧ (-90 ≤ p.1.el ∧ p.1.el ≤ 180)) ∧ p.2.length ≤ 450) ∧ wayL a b = a :: (p.2 ++ wL2 p.1 b)) (fun p => (tiltN p.1.el b.el).toNat) (a := (d, r)) ⟨⟨⟨hd, by have := ha.2; unfold elR at this; simp only; omega⟩, hrl⟩, hf⟩ (Wkn.to ⟨0, [(2, 2), (3, 3), (1, 1)], [], 4, [3, 5, 6]⟩ rfl rfl (by simp [Wk.st, keepT, memN, Wk.fate, Wk.fate0, assoc, getE, Wk.hp, ABlk.sub, sub1, subs, S69, free_Dr])) ?_
    clear hf hrl m1 m2 t0 t1 t2 hne n0 hel hd
    rintro f2 ⟨d, r⟩ ⟨⟨⟨hd, he1, he2⟩, hrl⟩, hf⟩ go2
    simp only at hd he1 he2 hrl hf
    have hrl : r.length ≤ 450 := by rw [hf] at hwl; simp only [List.length_cons, List.length_append] at hwl; omega
    have m1 : (r.length + 1 + 1 ≤ maxLen) = True := mx (by omega)
    have m2 : ((r.length + 1 + 1) * 16 ≤ 140737488355328) = True := by simp only [eq_iff_iff, iff_true]; omega
    have t0 : (r.map eDr).length = r.length := by simp
    have t1 : (r.length ≤ (r.map eDr).length) = True := by simp
    have t2 : (r.map eDr).take r.length = r.map eDr := by rw [List.take_of_length_le]; simp
    by_cases hne : d.el = b.el
    · have n0 : (d.el = b.el) = True := eq_true hne
      rw [wL2_end hne, List.append_nil] at hf
      rw [hf]
      simp +contextual -implicitDefEqProofs (maxSteps := 2000000) only [S69, n0, t0, t1, t2, not_true_eq_false, List.map_cons, Nat.le_refl, free_Dr, ruB, rh_no, Int.reduceLT, Int.reduceLE, Int.reduceAdd, Int.reduceSub, Int.reduceMul, Int.reduceNeg, Int.reduceToNat, Int.reduceEq, Int.reduceNe, Int.reduceTDiv, Int.reduceTMod, implies_true, putL, appN, appX, appC, Eng.Fi, reduceCtorEq, exists_eq_left', exists_eq_left, if_true, if_false, List.replicate, Nat.reduceAdd, Nat.reduceSub, Nat.reduceMul, Nat.reduceLeDiff, Nat.reduceLT, Nat.reduceEqDiff]
    · have n0 : (d.el = b.el) = False := eq_false hne
      have hs := wL2_step (b := b) hne
      rw [hs] at hf
      obtain ⟨m, k1, k2, k3⟩ := tilt_step hne
      have hlt : wayL a b = a :: ((r ++ [⟨d.az, d.el + tiltS d.el b.el⟩]) ++ wL2 ⟨d.az, d.el + tiltS d.el b.el⟩ b) := by rw [hf, List.append_assoc]; rfl
      have hl2 : (r ++ [(⟨d.az, d.el + tiltS d.el b.el⟩ : Dr)]).length ≤ 450 := by rw [hlt] at hwl; simp only [List.length_cons, List.length_append, List.length_nil] at hwl ⊢; omega
      have hrv : ∀ φ, subs φ (r.map eDr ++ [eDr ⟨d.az, d.el + tiltS d.el b.el⟩]) = r.map eDr ++ [eDr ⟨d.az, d.el + tiltS d.el b.el⟩] := fun φ => by
        have := free_Dr φ (r ++ [⟨d.az, d.el + tiltS d.el b.el⟩])
        rwa [List.map_append] at this
      have hbe := hb.2
      unfold elR at hbe
      by_cases hlt' : d.el < b.el
      · have q0 : (d.el < b.el) = True := eq_true hlt'
        have ts : tiltS d.el b.el = 1 := by unfold tiltS; rw [if_pos (by omega)]
        rw [ts] at hlt hl2 hrv k2
        have w1 : IntKind.wrap .i64 (d.el + 1) = d.el + 1 := wrap64 (by omega) (by omega)
        simp +contextual -implicitDefEqProofs (maxSteps := 2000000) only [S69, n0, q0, w1, rs_nil, rs_t, rs_f, ag_nils, ag_sl, ag_vs, ag_str, ag_ptr, ag_nilp, ag_vp, ag_fun, m1, m2, t0, t1, t2, not_false_eq_true, Nat.le_refl, ruB, rh_no, Int.reduceLT, Int.reduceLE, Int.reduceAdd, Int.reduceSub, Int.reduceMul, Int.reduceNeg, Int.reduceToNat, Int.reduceEq, Int.reduceNe, Int.reduceTDiv, Int.reduceTMod, implies_true, putL, appN, appX, appC, Eng.Fi, reduceCtorEq, exists_eq_left', exists_eq_left, if_true, if_false, List.replicate, Nat.reduceAdd, Nat.reduceSub, Nat.reduceMul, Nat.reduceLeDiff, Nat.reduceLT, Nat.reduceEqDiff]
        exact go2 _ (⟨d.az, d.el + 1⟩, r ++ [⟨d.az, d.el + 1⟩]) ⟨⟨⟨hd, by simp only; omega⟩, hl2⟩, hlt⟩ (by simp only; omega) (Wkn.to ⟨0, [(5, 2), (3, 3), (1, 1)], [], 4, [3, 5, 6]⟩ rfl rfl (by simp [Wk.st, keepT, memN, Wk.fate, Wk.fate0, assoc, getE, Wk.hp, ABlk.sub, sub1, subs, S69, hrv]))
      · have q0 : (d.el < b.el) = False := eq_false hlt'
        have ts : tiltS d.el b.el = -1 := by unfold tiltS; rw [if_neg (by omega)]
        rw [ts] at hlt hl2 hrv k2
        have w1 : IntKind.wrap .i64 (d.el - 1) = d.el + -1 := by rw [wrap64 (by omega) (by omega)]; rfl
        simp +contextual -implicitDefEqProofs (maxSteps := 2000000) only [S69, n0, q0, w1, rs_nil, rs_t, rs_f, ag_nils, ag_sl, ag_vs, ag_str, ag_ptr, ag_nilp, ag_vp, ag_fun, m1, m2, t0, t1, t2, not_false_eq_true, Nat.le_refl, ruB, rh_no, Int.reduceLT, Int.reduceLE, Int.reduceAdd, Int.reduceSub, Int.reduceMul, Int.reduceNeg, Int.reduceToNat, Int.reduceEq, Int.reduceNe, Int.reduceTDiv, Int.reduceTMod, implies_true, putL, appN, appX, appC, Eng.Fi, reduceCtorEq, exists_eq_left', exists_eq_left, if_true, if_false, List.replicate, Nat.reduceAdd, Nat.reduceSub, Nat.reduceMul, Nat.reduceLeDiff, Nat.reduceLT, Nat.reduceEqDiff]
        exact go2 _ (⟨d.az, d.el + -1⟩, r ++ [⟨d.az, d.el + -1⟩]) ⟨⟨⟨hd, by simp only; omega⟩, hl2⟩, hlt⟩ (by simp only; omega) (Wkn.to ⟨0, [(5, 2), (3, 3), (1, 1)], [], 4, [3, 5, 6]⟩ rfl rfl (by simp [Wk.st, keepT, memN, Wk.fate, Wk.fate0, assoc, getE, Wk.hp, ABlk.sub, sub1, subs, S69, hrv]))
  · have n0 : (d.az = b.az) = False := eq_false hne
    obtain ⟨s1, s2⟩ := wL1_step hd hb.1 hne
    obtain ⟨m, k1, k2, k3, k4⟩ := turn_step hd hb.1 hne
    have hlt : wayL a b = a :: ((r ++ [⟨nAz (turnS d.az b.az) d.az, d.el⟩]) ++ wL1 ⟨nAz (turnS d.az b.az) d.az, d.el⟩ b) := by rw [hf, s2, List.append_assoc]; rfl
    have hrv : ∀ φ, subs φ (r.map eDr ++ [eDr ⟨nAz (turnS d.az b.az) d.az, d.el⟩]) = r.map eDr ++ [eDr ⟨nAz (turnS d.az b.az) d.az, d.el⟩] := fun φ => by
      have := free_Dr φ (r ++ [⟨nAz (turnS d.az b.az) d.az, d.el⟩])
      rwa [List.map_append] at this
    have y1 := x_rAround d.az b.az (by simp only [hd, hb.1, and_self])
    have hn := arI_neg (a := d.az) (b := b.az)
    have hd' := hd
    unfold azR at hd'
    by_cases hneg : arI d.az b.az < 0
    · have q0 : (arI d.az b.az < 0) = True := eq_true hneg
      have ts := hn.1 hneg
      have e4 : (d.az + -1) % 360 = nAz (turnS d.az b.az) d.az := by rw [ts]; unfold nAz upw; omega
      have w1 : IntKind.wrap .i64 (d.az + -1) = d.az + -1 := wrap64 (by omega) (by omega)
      have y := x_Mod (d.az + -1) 360 (by simp)
      rw [e4] at y
      generalize nAz (turnS d.az b.az) d.az = z at *
      simp +contextual -implicitDefEqProofs (maxSteps := 2000000) only [S69, n0, q0, w1, y1, y, rs_nil, rs_t, rs_f, ag_nils, ag_sl, ag_vs, ag_str, ag_ptr, ag_nilp, ag_vp, ag_fun, m1, m2, t0, t1, t2, not_false_eq_true, Nat.le_refl, ruB, rh_no, Int.reduceLT, Int.reduceLE, Int.reduceAdd, Int.reduceSub, Int.reduceMul, Int.reduceNeg, Int.reduceToNat, Int.reduceEq, Int.reduceNe, Int.reduceTDiv, Int.reduceTMod, implies_true, putL, appN, appX, appC, Eng.Fi, reduceCtorEq, exists_eq_left', exists_eq_left, if_true, if_false, List.replicate, Nat.reduceAdd, Nat.reduceSub, Nat.reduceMul, Nat.reduceLeDiff, Nat.reduceLT, Nat.reduceEqDiff]
      exact go _ (⟨z, d.el⟩, r ++ [⟨z, d.el⟩]) ⟨⟨s1, hel⟩, hlt⟩ (by simp only; omega) (Wkn.to ⟨0, [(5, 2), (3, 3), (1, 1)], [], 4, [3, 5, 6]⟩ rfl rfl (by simp [Wk.st, keepT, memN, Wk.fate, Wk.fate0, assoc, getE, Wk.hp, ABlk.sub, sub1, subs, S69, hrv]))
    · have q0 : (arI d.az b.az < 0) = False := eq_false hneg
      have ts : turnS d.az b.az = 1 := (turnS_v d.az b.az).resolve_right (fun e => hneg (hn.2 e))
      have e4 : (d.az + 1) % 360 = nAz (turnS d.az b.az) d.az := by rw [ts]; unfold nAz upw; omega
      have w1 : IntKind.wrap .i64 (d.az + 1) = d.az + 1 := wrap64 (by omega) (by omega)
      have y := x_Mod (d.az + 1) 360 (by simp)
      rw [e4] at y
      generalize nAz (turnS d.az b.az) d.az = z at *
      simp +contextual -implicitDefEqProofs (maxSteps := 2000000) only [S69, n0, q0, w1, y1, y, rs_nil, rs_t, rs_f, ag_nils, ag_sl, ag_vs, ag_str, ag_ptr, ag_nilp, ag_vp, ag_fun, m1, m2, t0, t1, t2, not_false_eq_true, Nat.le_refl, ruB, rh_no, Int.reduceLT, Int.reduceLE, Int.reduceAdd, Int.reduceSub, Int.reduceMul, Int.reduceNeg, Int.reduceToNat, Int.reduceEq, Int.reduceNe, Int.reduceTDiv, Int.reduceTMod, implies_true, putL, appN, appX, appC, Eng.Fi, reduceCtorEq, exists_eq_left', exists_eq_left, if_true, if_false, List.replicate, Nat.reduceAdd, Nat.reduceSub, Nat.reduceMul, Nat.reduceLeDiff, Nat.reduceLT, Nat.reduceEqDiff]
      exact go _ (⟨z, d.el⟩, r ++ [⟨z, d.el⟩]) ⟨⟨s1, hel⟩, hlt⟩ (by simp only; omega) (Wkn.to ⟨0, [(5, 2), (3, 3), (1, 1)], [], 4, [3, 5, 6]⟩ rfl rfl (by simp [Wk.st, keepT, memN, Wk.fate, Wk.fate0, assoc, getE, Wk.hp, ABlk.sub, sub1, subs, S69, hrv]))
def cf_rWay : List AV → Option AV
  | [.agg [.int .i64 a_az, .int .i64 a_el], .agg [.int .i64 b_az, .int .i64 b_el]] => if drR (⟨a_az, a_el⟩ : Dr) ∧ drR (⟨b_az, b_el⟩ : Dr) then some (.vs ((wayL (⟨a_az, a_el⟩ : Dr) (⟨b_az, b_el⟩ : Dr)).map eDr)) else none
  | _ => none
theorem g_rWay : Fn P 69 cf_rWay := fun args v hh => by
  unfold cf_rWay at hh; split at hh
  · split at hh
    · rename_i hc; have hk := Option.some.inj hh; subst hk; exact k_rWay ⟨_, _⟩ ⟨_, _⟩ hc
    · cases hh
  · cases hh
theorem x_rWay (a : Dr) (b : Dr) (hc : (drR a ∧ drR b) = True) : cf_rWay [.agg [I a.az, I a.el], .agg [I b.az, I b.el]] = some (.vs ((wayL a b).map eDr)) := by
  exact if_pos (by rw [hc]; trivial)
end Sc
