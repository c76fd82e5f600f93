import Derived.Test.YtjkhnmhbbjgenaaEngS9
import Derived.Test.YtjkhnmhbbjgenaaS22
open Go Go.Proofs Eng
set_option maxRecDepth 100000
set_option linter.unusedSimpArgs false
set_option linter.unusedVariables false
def a70 : AC := .seq (.ops false [] [⟨some 3, .box 42 7 1 true, [.t 0], none⟩, ⟨some 4, .box 37 2 1 true, [.t 1], none⟩, ⟨some 5, .box 37 2 1 true, [.t 2], none⟩, ⟨some 6, .p (.mov), [.c (.int .i64 0)], none⟩]) (.seq (.ops true [] [⟨some 7, .p (.faddr 2), [.t 3], none⟩, ⟨some 8, .load 2 true, [.t 7], none⟩, ⟨some 9, .p (.faddr 0), [.t 4], none⟩, ⟨some 10, .load 1 false, [.t 9], none⟩, ⟨some 11, .p (.faddr 0), [.t 5], none⟩, ⟨some 12, .load 1 false, [.t 11], none⟩, ⟨some 13, .call 115, [.t 10, .t 12], none⟩, ⟨some 14, .call 116, [.t 13], none⟩, ⟨some 15, .call 40, [.t 8, .t 14], none⟩, ⟨some 16, .p (.faddr 4), [.t 3], none⟩, ⟨some 17, .load 2 true, [.t 16], none⟩, ⟨some 18, .p (.faddr 1), [.t 5], none⟩, ⟨some 19, .load 1 false, [.t 18], none⟩, ⟨some 20, .p (.faddr 1), [.t 4], none⟩, ⟨some 21, .load 1 false, [.t 20], none⟩, ⟨some 22, .p (.binI .sub), [.t 19, .t 21], none⟩, ⟨some 23, .call 116, [.t 22], none⟩, ⟨some 24, .call 40, [.t 17, .t 23], none⟩, ⟨some 25, .p (.binI .add), [.t 15, .t 24], none⟩, ⟨some 6, .p (.mov), [.t 25], none⟩]) (.ret))
theorem c70 : FnC Try.prog 70 26 a70 [.tmp 6] := ⟨Try.call70, _, _, Try.func70, rfl, by kernel_rfl, by kernel_rfl, rfl⟩
def a115 : AC := .seq (.ops false [] [⟨some 4, .p (.mov), [.c (.int .i64 0)], none⟩]) (.seq (.ops false [] [⟨some 6, .p (.mov), [.t 1], none⟩, ⟨some 7, .p (.mov), [.t 0], none⟩, ⟨some 8, .p (.binI .sub), [.t 6, .t 7], none⟩, ⟨some 9, .call 46, [.t 8, .c (.int .i64 360)], none⟩, ⟨some 5, .p (.mov), [.t 9], none⟩]) (.seq (.seq (.ops false [] [⟨some 10, .p (.mov), [.t 5], none⟩, ⟨some 11, .p (.binI .mul), [.c (.int .i64 2), .t 10], none⟩, ⟨some 12, .p (.binI .gtr), [.t 11, .c (.int .i64 360)], none⟩]) (.cond (.t 12) (.seq (.ops false [] [⟨some 13, .p (.mov), [.t 5], none⟩, ⟨some 14, .p (.binI .sub), [.t 13, .c (.int .i64 360)], none⟩, ⟨some 4, .p (.mov), [.t 14], none⟩]) (.ret)) (.skip))) (.seq (.ops false [] [⟨some 15, .p (.mov), [.t 5], none⟩, ⟨some 4, .p (.mov), [.t 15], none⟩]) (.ret))))
theorem c115 : FnC Try.prog 115 16 a115 [.tmp 4] := ⟨Try.call115, _, _, Try.func115, rfl, by kernel_rfl, by kernel_rfl, rfl⟩
namespace Sc
def arI (a b : Int) : Int := if 360 < 2 * upw a b then upw a b - 360 else upw a b
theorem k_rAround (a b : Int) (hc : azR a ∧ azR b) : FOk P 115 [I a, I b] (I (arI a b)) := by
  obtain ⟨ha, hb⟩ := hc
  unfold azR at ha hb
  have hu : (b - a) % 360 = upw a b := by unfold upw; omega
  have h1 := upw_bd a b
  have w1 : IntKind.wrap .i64 (b - a) = b - a := wrap64 (by omega) (by omega)
  have y := x_Mod (b - a) 360 (by simp)
  rw [hu] at y
  have w2 : IntKind.wrap .i64 (2 * upw a b) = 2 * upw a b := wrap64 (by omega) (by omega)
  have w3 : IntKind.wrap .i64 (upw a b - 360) = upw a b - 360 := wrap64 (by omega) (by omega)
  by_cases h : 360 < 2 * upw a b
  · simp only [arI, if_pos h]
    refine c115.fok rfl (Cor.run (addC_good g_Mod (noC_good _)) (noHx_good _) hm ?_)
    simp +contextual -implicitDefEqProofs (maxSteps := 2000000) only [bg_eq, a115, y, w1, w2, w3, h, ruB, rh_no, Int.reduceLT, Int.reduceLE, Int.reduceAdd, Int.reduceSub, Int.reduceMul, Int.reduceNeg, Int.reduceToNat, Int.reduceEq, Int.reduceNe, Int.reduceTDiv, Int.reduceTMod, implies_true, putL, appN, appX, appC, Eng.Fi, reduceCtorEq, exists_eq_left', exists_eq_left, if_true, if_false, List.replicate, Nat.reduceAdd, Nat.reduceSub, Nat.reduceMul, Nat.reduceLeDiff, Nat.reduceLT, Nat.reduceEqDiff]
  · simp only [arI, if_neg h]
    refine c115.fok rfl (Cor.run (addC_good g_Mod (noC_good _)) (noHx_good _) hm ?_)
    simp +contextual -implicitDefEqProofs (maxSteps := 2000000) only [bg_eq, a115, y, w1, w2, w3, h, ruB, rh_no, Int.reduceLT, Int.reduceLE, Int.reduceAdd, Int.reduceSub, Int.reduceMul, Int.reduceNeg, Int.reduceToNat, Int.reduceEq, Int.reduceNe, Int.reduceTDiv, Int.reduceTMod, implies_true, putL, appN, appX, appC, Eng.Fi, reduceCtorEq, exists_eq_left', exists_eq_left, if_true, if_false, List.replicate, Nat.reduceAdd, Nat.reduceSub, Nat.reduceMul, Nat.reduceLeDiff, Nat.reduceLT, Nat.reduceEqDiff]
def cf_rAround : List AV → Option AV
  | [.int .i64 a, .int .i64 b] => if azR a ∧ azR b then some (I (arI a b)) else none
  | _ => none
theorem g_rAround : Fn P 115 cf_rAround := fun args v hh => by
  unfold cf_rAround at hh; split at hh
  · split at hh
    · rename_i hc; have hk := Option.some.inj hh; subst hk; exact k_rAround _ _ hc
    · cases hh
  · cases hh
theorem x_rAround (a : Int) (b : Int) (hc : (azR a ∧ azR b) = True) : cf_rAround [.int .i64 a, .int .i64 b] = some (I (arI a b)) := by
  exact if_pos (by rw [hc]; trivial)
theorem arI_size {a b : Int} (ha : azR a) (hb : azR b) : max (arI a b) (-(arI a b)) = turnN a b := by
  unfold azR at ha hb
  unfold arI turnN upw
  split <;> split <;> omega
theorem tilt_size (a b : Int) : max (b - a) (-(b - a)) = tiltN a b := by
  unfold tiltN; split <;> omega
theorem k_rMove (h : Hd) (a b : Dr) (hb : mvB h a b) : FOk P 70 [eHd h, eDr a, eDr b] (I (mvT h a b)) := by
  obtain ⟨⟨h1, h2⟩, ⟨h3, h4⟩, ⟨h5, h6⟩⟩ := hb
  have b1 := turnN_bd a.az b.az
  have b2 := tiltN_bd h4 h6
  have h4' := h4; have h6' := h6
  unfold elR at h4' h6'
  have s1 := arI_size h3 h5
  have s2 := tilt_size a.el b.el
  have u := upw_bd a.az b.az
  have y1 := x_rAround a.az b.az (by simp only [h3, h5, and_self])
  have y2 := x_Size (arI a.az b.az) (by simp only [eq_iff_iff, iff_true]; unfold arI; split <;> omega)
  have y2' := x_Size (b.el - a.el) (by simp only [eq_iff_iff, iff_true]; omega)
  rw [s1] at y2
  rw [s2] at y2'
  have y3 := x_rTicks h.ra h.aa (turnN a.az b.az) (by simp only [eq_iff_iff, iff_true]; exact ⟨h1, by omega, by omega⟩)
  have y4 := x_rTicks h.re h.ae (tiltN a.el b.el) (by simp only [eq_iff_iff, iff_true]; exact ⟨h2, by omega, by omega⟩)
  have t1 := tk_bd (r := h.ra) (a := h.aa) (d := turnN a.az b.az) h1 (by omega)
  have t2 := tk_bd (r := h.re) (a := h.ae) (d := tiltN a.el b.el) h2 (by omega)
  have e1 : IntKind.wrap .i64 ((tkL h.ra h.aa (turnN a.az b.az) : Int) + tkL h.re h.ae (tiltN a.el b.el)) = mvT h a b := wrap64 (by omega) (by omega)
  have w2 : IntKind.wrap .i64 (b.el - a.el) = b.el - a.el := wrap64 (by omega) (by omega)
  refine c70.fok (by simp only [free_Hs, free_Hd, subs, sub1, free_Se]) (Cor.run (addC_good g_rTicks (addC_good g_Size (addC_good g_rAround (noC_good _)))) (noHx_good _) hm ?_)
  simp +contextual -implicitDefEqProofs (maxSteps := 2000000) only [bg_eq, a70, y1, y2, y2', y3, y4, e1, w2, ruB, rh_no, Int.reduceLT, Int.reduceLE, Int.reduceAdd, Int.reduceSub, Int.reduceMul, Int.reduceNeg, Int.reduceToNat, Int.reduceEq, Int.reduceNe, Int.reduceTDiv, Int.reduceTMod, implies_true, putL, appN, appX, appC, Eng.Fi, reduceCtorEq, exists_eq_left', exists_eq_left, if_true, if_false, List.replicate, Nat.reduceAdd, Nat.reduceSub, Nat.reduceMul, Nat.reduceLeDiff, Nat.reduceLT, Nat.reduceEqDiff]
def cf_rMove : List AV → Option AV
  | [h_v, .agg [.int .i64 a_az, .int .i64 a_el], .agg [.int .i64 b_az, .int .i64 b_el]] => onH h_v fun h => if mvB h (⟨a_az, a_el⟩ : Dr) (⟨b_az, b_el⟩ : Dr) then some (I (mvT h (⟨a_az, a_el⟩ : Dr) (⟨b_az, b_el⟩ : Dr))) else none
  | _ => none
theorem g_rMove : Fn P 70 cf_rMove := fun args v hh => by
  unfold cf_rMove at hh; split at hh
  · obtain ⟨h, rfl, hh1⟩ := onH_inv hh
    split at hh1
    · rename_i hc; have hk := Option.some.inj hh1; subst hk; exact k_rMove _ ⟨_, _⟩ ⟨_, _⟩ hc
    · cases hh1
  · cases hh
theorem x_rMove (h : Hd) (a : Dr) (b : Dr) (hc : (mvB h a b) = True) : cf_rMove [eHd h, .agg [I a.az, I a.el], .agg [I b.az, I b.el]] = some (I (mvT h a b)) := by
  simp only [cf_rMove, onH_e]
  exact if_pos (by rw [hc]; trivial)
theorem turn_step {a b : Int} (ha : azR a) (hb : azR b) (hne : a ≠ b) : ∃ m : Nat, turnN a b = m + 1 ∧ azR (nAz (turnS a b) a) ∧ turnN (nAz (turnS a b) a) b = m ∧ (m = 0 ∨ turnS (nAz (turnS a b) a) b = turnS a b) := by
  unfold azR at *
  have h0 : 0 ≤ turnN a b - 1 := by unfold turnN upw; split <;> omega
  refine ⟨(turnN a b - 1).toNat, by omega, nAz_bd _ _, ?_, ?_⟩
  · rw [Int.toNat_of_nonneg h0]
    by_cases h : 2 * upw a b ≤ 360
    · simp only [turnN, turnS, if_pos h, nAz]
      unfold upw at *
      split <;> omega
    · simp only [turnN, turnS, if_neg h, nAz]
      unfold upw at *
      split <;> omega
  · by_cases h : 2 * upw a b ≤ 360
    · simp only [turnN, turnS, if_pos h, nAz]
      unfold upw at *
      split <;> omega
    · simp only [turnN, turnS, if_neg h, nAz]
      unfold upw at *
      split <;> omega
theorem tilt_step {a b : Int} (hne : a ≠ b) : ∃ m : Nat, tiltN a b = m + 1 ∧ tiltN (a + tiltS a b) b = m ∧ (m = 0 ∨ tiltS (a + tiltS a b) b = tiltS a b) := by
  have h0 : 0 ≤ tiltN a b - 1 := by unfold tiltN; split <;> omega
  refine ⟨(tiltN a b - 1).toNat, by omega, ?_, ?_⟩
  · rw [Int.toNat_of_nonneg h0]
    unfold tiltN tiltS
    split <;> split <;> omega
  · unfold tiltN tiltS
    split <;> split <;> omega
/-- what is left of a way -/
def wL1 (d b : Dr) : List Dr := azL (turnS d.az b.az) d.el (wN1 d b) d.az ++ elL (tiltS d.el b.el) (wZ d b) (wN2 d b) d.el
theorem wL1_step {d b : Dr} (hd : azR d.az) (hb : azR b.az) (hne : d.az ≠ b.az) : azR (nAz (turnS d.az b.az) d.az) ∧ wL1 d b = ⟨nAz (turnS d.az b.az) d.az, d.el⟩ :: wL1 ⟨nAz (turnS d.az b.az) d.az, d.el⟩ b := by
  obtain ⟨m, h1, h2, h3, h4⟩ := turn_step hd hb hne
  refine ⟨h2, ?_⟩
  have n1 : wN1 d b = m + 1 := by unfold wN1; omega
  have n2 : wN1 ⟨nAz (turnS d.az b.az) d.az, d.el⟩ b = m := by unfold wN1; simp only; omega
  have n3 : wN2 ⟨nAz (turnS d.az b.az) d.az, d.el⟩ b = wN2 d b := rfl
  unfold wL1 wZ
  rw [n1, n2, n3, azL, List.cons_append, zAz]
  simp only
  rcases h4 with h4 | h4
  · subst h4; simp only [azL, zAz]
  · rw [h4]
def wL2 (d b : Dr) : List Dr := elL (tiltS d.el b.el) d.az (wN2 d b) d.el
theorem wL1_end {d b : Dr} (hb : azR b.az) (he : d.az = b.az) : wL1 d b = wL2 d b := by
  have n1 : wN1 d b = 0 := by unfold wN1 turnN upw; rw [he]; split <;> omega
  unfold wL1 wL2 wZ
  rw [n1]; rfl
theorem wL2_step {d b : Dr} (hne : d.el ≠ b.el) : wL2 d b = ⟨d.az, d.el + tiltS d.el b.el⟩ :: wL2 ⟨d.az, d.el + tiltS d.el b.el⟩ b := by
  obtain ⟨m, h1, h3, h4⟩ := tilt_step hne
  have n1 : wN2 d b = m + 1 := by unfold wN2; omega
  have n2 : wN2 ⟨d.az, d.el + tiltS d.el b.el⟩ b = m := by unfold wN2; simp only; omega
  unfold wL2
  rw [n1, n2, elL]
  simp only
  rcases h4 with h4 | h4
  · subst h4; simp only [elL]
  · rw [h4]
theorem wL2_end {d b : Dr} (he : d.el = b.el) : wL2 d b = [] := by
  have n1 : wN2 d b = 0 := by unfold wN2 tiltN; rw [he]; split <;> omega
  unfold wL2; rw [n1]; rfl
theorem wayL_wL1 (a b : Dr) : wayL a b = a :: wL1 a b := rfl
end Sc
