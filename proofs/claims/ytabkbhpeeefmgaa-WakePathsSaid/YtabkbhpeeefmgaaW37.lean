import Derived.Test.YtabkbhpeeefmgaaEngS9
import Derived.Test.YtabkbhpeeefmgaaW36
open Go Go.Proofs Eng
set_option maxRecDepth 100000
set_option linter.unusedSimpArgs false
set_option linter.unusedVariables false
def a69 : AC := .seq (.ops false [] [⟨some 3, .box 50 6 1 true, [.t 0], none⟩, ⟨some 4, .box 52 6 1 true, [.t 1], none⟩, ⟨some 6, .p (.mov), [.c (.int .i64 0)], none⟩, ⟨some 7, .p (.mov), [.c (.int .i64 0)], none⟩]) (.seq (.seq (.ops false [] [⟨some 9, .p (.mov), [.t 2], none⟩, ⟨some 10, .p (.lenS), [.t 9], none⟩, ⟨some 11, .p (.binI .eql), [.t 10, .c (.int .i64 0)], none⟩]) (.cond (.t 11) (.seq (.ops false [] [⟨some 6, .p (.mov), [.c (.int .i64 0)], none⟩, ⟨some 7, .p (.mov), [.c (.int .i64 10)], none⟩]) (.ret)) (.skip))) (.seq (.seq (.ops false [] [⟨some 12, .p (.mov), [.t 2], none⟩, ⟨some 13, .p (.lenS), [.t 12], none⟩, ⟨some 14, .p (.binI .gtr), [.t 13, .c (.int .i64 1001)], none⟩]) (.cond (.t 14) (.seq (.ops false [] [⟨some 6, .p (.mov), [.c (.int .i64 0)], none⟩, ⟨some 7, .p (.mov), [.c (.int .i64 8)], none⟩]) (.ret)) (.skip))) (.seq (.seq (.ops false [] [⟨some 8, .p (.mov), [.c (.int .i64 0)], none⟩]) (.block 0 (.loop (.seq (.seq (.ops false [] [⟨some 15, .p (.mov), [.t 8], none⟩, ⟨some 16, .p (.mov), [.t 2], none⟩, ⟨some 17, .p (.lenS), [.t 16], none⟩, ⟨some 18, .p (.binI .lss), [.t 15, .t 17], none⟩]) (.cond (.t 18) (.skip) (.exit 0))) (.seq (.block 1 (.seq (.ops true [] [⟨some 21, .p (.mov), [.t 8], none⟩, ⟨some 22, .p (.binI .eql), [.t 21, .c (.int .i64 0)], none⟩, ⟨some 23, .p (.mov), [.t 22], none⟩, ⟨some 24, .load 6 true, [.t 3], some (23, true)⟩, ⟨some 25, .p (.mov), [.t 2], some (23, true)⟩, ⟨some 26, .p (.iaddrS 3), [.t 25, .c (.int .i64 0)], some (23, true)⟩, ⟨some 27, .load 3 true, [.t 26], some (23, true)⟩, ⟨some 28, .call 70, [.t 24, .t 27], some (23, true)⟩, ⟨some 29, .p (.notB), [.t 28], some (23, true)⟩, ⟨some 30, .p (.pick), [.t 23, .t 29, .c (.bool false)], none⟩, ⟨some 31, .p (.mov), [.t 30], none⟩, ⟨some 32, .p (.mov), [.t 8], some (31, false)⟩, ⟨some 33, .p (.binI .gtr), [.t 32, .c (.int .i64 0)], some (31, false)⟩, ⟨some 34, .p (.mov), [.t 33], some (31, false)⟩, ⟨some 35, .p (.mov), [.t 2], some (34, true)⟩, ⟨some 36, .p (.mov), [.t 8], some (34, true)⟩, ⟨some 37, .p (.binI .sub), [.t 36, .c (.int .i64 1)], some (34, true)⟩, ⟨some 38, .p (.iaddrS 3), [.t 35, .t 37], some (34, true)⟩, ⟨some 39, .load 3 true, [.t 38], some (34, true)⟩, ⟨some 40, .p (.mov), [.t 2], some (34, true)⟩, ⟨some 41, .p (.mov), [.t 8], some (34, true)⟩, ⟨some 42, .p (.iaddrS 3), [.t 40, .t 41], some (34, true)⟩, ⟨some 43, .load 3 true, [.t 42], some (34, true)⟩, ⟨some 44, .load 6 true, [.t 4], some (34, true)⟩, ⟨some 45, .call 133, [.t 39, .t 43, .t 44], some (34, true)⟩, ⟨some 46, .p (.notB), [.t 45], some (34, true)⟩, ⟨some 47, .p (.pick), [.t 34, .t 46, .c (.bool false)], some (31, false)⟩, ⟨some 48, .p (.pick), [.t 31, .c (.bool true), .t 47], none⟩]) (.cond (.t 48) (.seq (.ops false [] [⟨some 49, .p (.mov), [.t 8], none⟩, ⟨some 6, .p (.mov), [.t 49], none⟩, ⟨some 7, .p (.mov), [.c (.int .i64 17)], none⟩]) (.ret)) (.skip)))) (.ops false [] [⟨some 19, .p (.mov), [.t 8], none⟩, ⟨some 20, .p (.binI .add), [.t 19, .c (.int .i64 1)], none⟩, ⟨some 8, .p (.mov), [.t 20], none⟩])))))) (.seq (.ops false [] [⟨some 6, .p (.mov), [.c (.int .i64 0)], none⟩, ⟨some 7, .p (.mov), [.c (.int .i64 0)], none⟩]) (.ret)))))
theorem c69 : FnC Try.prog 69 50 a69 [.tmp 6, .tmp 7] := ⟨Try.call69, _, _, Try.func69, rfl, by kernel_rfl, by kernel_rfl, rfl⟩
def a133 : AC := .seq (.ops false [] [⟨some 3, .box 46 3 1 true, [.t 0], none⟩, ⟨some 4, .box 46 3 1 true, [.t 1], none⟩, ⟨some 5, .box 52 6 1 true, [.t 2], none⟩, ⟨some 6, .p (.mov), [.c (.bool false)], none⟩]) (.seq (.ops true [] [⟨some 7, .p (.faddr 0), [.t 3], none⟩, ⟨some 8, .p (.faddr 0), [.t 7], none⟩, ⟨some 9, .load 1 false, [.t 8], none⟩, ⟨some 10, .p (.faddr 0), [.t 3], none⟩, ⟨some 11, .p (.faddr 0), [.t 10], none⟩, ⟨some 12, .load 1 false, [.t 11], none⟩, ⟨some 13, .p (.build [.int .i64 0, .int .i64 0] [(0, 1), (1, 1)]), [.t 9, .t 12], none⟩, ⟨some 14, .p (.faddr 0), [.t 3], none⟩, ⟨some 15, .p (.faddr 1), [.t 14], none⟩, ⟨some 16, .load 1 false, [.t 15], none⟩, ⟨some 17, .p (.faddr 0), [.t 3], none⟩, ⟨some 18, .p (.faddr 1), [.t 17], none⟩, ⟨some 19, .load 1 false, [.t 18], none⟩, ⟨some 20, .p (.build [.int .i64 0, .int .i64 0] [(0, 1), (1, 1)]), [.t 16, .t 19], none⟩, ⟨some 21, .p (.faddr 2), [.t 3], none⟩, ⟨some 22, .load 1 false, [.t 21], none⟩, ⟨some 23, .p (.faddr 2), [.t 3], none⟩, ⟨some 24, .load 1 false, [.t 23], none⟩, ⟨some 25, .p (.build [.int .i64 0, .int .i64 0] [(0, 1), (1, 1)]), [.t 22, .t 24], none⟩, ⟨some 26, .p (.build [.int .i64 0, .int .i64 0, .int .i64 0, .int .i64 0, .int .i64 0, .int .i64 0] [(0, 2), (2, 2), (4, 2)]), [.t 13, .t 20, .t 25], none⟩, ⟨some 27, .load 6 true, [.t 5], none⟩, ⟨some 28, .call 99, [.t 26, .t 27], none⟩, ⟨some 29, .load 3 true, [.t 4], none⟩, ⟨some 30, .call 70, [.t 28, .t 29], none⟩, ⟨some 6, .p (.mov), [.t 30], none⟩]) (.ret))
theorem c133 : FnC Try.prog 133 31 a133 [.tmp 6] := ⟨Try.call133, _, _, Try.func133, rfl, by kernel_rfl, by kernel_rfl, rfl⟩
namespace Wa
def dot (v : Vo) : Bx := ⟨v.y, v.y, v.z, v.z, v.s, v.s⟩
theorem st_dot {d : Bx} (hd : dfR d) (v w : Vo) : hoP (nxV (dot v) d) w ↔ stP d v w := by
  unfold dfR inR at hd
  unfold hoP nxV dot stP faP
  simp only
  constructor
  · intro h
    refine ⟨⟨by omega, ?_⟩, ?_⟩
    · split <;> omega
    · split <;> omega
  · intro h
    obtain ⟨⟨h1, h2⟩, h3⟩ := h
    refine ⟨⟨by omega, ?_⟩, ?_⟩
    · split at h2 <;> omega
    · split at h3 <;> omega
def voS (v : Vo) : Prop := (-2000000 ≤ v.y ∧ v.y ≤ 2000000) ∧ (0 ≤ v.z ∧ v.z ≤ 2000000) ∧ (0 ≤ v.s ∧ v.s ≤ 2000000)
instance (v : Vo) : Decidable (voS v) := by unfold voS; infer_instance
theorem k_rSteps (v w : Vo) (d : Bx) (h : voS v ∧ dfR d) : FOk P 133 [eVo v, eVo w, eBx d] (.bool (decide (stP d v w))) := by
  obtain ⟨h1, h2⟩ := h
  have y1 : cf_rNext [.agg [I v.y, I v.y, I v.z, I v.z, I v.s, I v.s], eBx d] = some (eBx (nxV (dot v) d)) := x_rNext (dot v) d (by
    simp only [eq_iff_iff, iff_true]
    refine ⟨?_, h2⟩
    unfold voS at h1
    unfold inR dot
    simp only
    omega)
  have y2 := x_rHolds (nxV (dot v) d) w
  have e : decide (hoP (nxV (dot v) d) w) = decide (stP d v w) := decide_eq_decide.2 (st_dot h2 v w)
  rw [e] at y2
  generalize nxV (dot v) d = n at *
  refine c133.fok rfl (Cor.run (addC_good g_rHolds (addC_good g_rNext (noC_good _))) (noHx_good _) hm ?_)
  simp +contextual -implicitDefEqProofs (maxSteps := 2000000) only [bg_eq, a133, y1, y2, ruB, rh_no, Int.reduceLT, Int.reduceLE, Int.reduceAdd, Int.reduceSub, Int.reduceMul, Int.reduceNeg, Int.reduceToNat, Int.reduceEq, Int.reduceNe, Int.reduceTDiv, Int.reduceTMod, implies_true, putL, appN, appX, appC, Eng.Fi, reduceCtorEq, exists_eq_left', exists_eq_left, if_true, if_false, List.replicate, Nat.reduceAdd, Nat.reduceSub, Nat.reduceMul, Nat.reduceLeDiff, Nat.reduceLT, Nat.reduceEqDiff]
def cf_rSteps : List AV → Option AV
  | [.agg [.int .i64 v_y, .int .i64 v_z, .int .i64 v_s], .agg [.int .i64 w_y, .int .i64 w_z, .int .i64 w_s], .agg [.int .i64 d_yl, .int .i64 d_yh, .int .i64 d_zl, .int .i64 d_zh, .int .i64 d_sl, .int .i64 d_sh]] => if voS (⟨v_y, v_z, v_s⟩ : Vo) ∧ dfR (⟨d_yl, d_yh, d_zl, d_zh, d_sl, d_sh⟩ : Bx) then some (.bool (decide (stP (⟨d_yl, d_yh, d_zl, d_zh, d_sl, d_sh⟩ : Bx) (⟨v_y, v_z, v_s⟩ : Vo) (⟨w_y, w_z, w_s⟩ : Vo)))) else none
  | _ => none
theorem g_rSteps : Fn P 133 cf_rSteps := fun args v hh => by
  unfold cf_rSteps at hh; split at hh
  · split at hh
    · rename_i hc; have hk := Option.some.inj hh; subst hk; exact k_rSteps ⟨_, _, _⟩ ⟨_, _, _⟩ ⟨_, _, _, _, _, _⟩ hc
    · cases hh
  · cases hh
theorem x_rSteps (v : Vo) (w : Vo) (d : Bx) (hc : (voS v ∧ dfR d) = True) : cf_rSteps [.agg [I v.y, I v.z, I v.s], .agg [I w.y, I w.z, I w.s], .agg [I d.yl, I d.yh, I d.zl, I d.zh, I d.sl, I d.sh]] = some (.bool (decide (stP d v w))) := by
  exact if_pos (by rw [hc]; trivial)
theorem cpE_mv {b d : Bx} {l : List Vo} (h : mvE b d = 0) : cpE b d l = firstE [unl (0 < (l.length : Int)) 10, unl ((l.length : Int) ≤ 1001) 8] := by
  rw [mvE_first] at h
  have z := firstE_zero h
  rw [cpE, z (bxE b) (by simp), z (dfE d) (by simp), fE0, fE0]
def S_rc (b d : Bx) (l : List Vo) (k : Nat) : AState := ⟨[.any, .any, .vs (l.map eVo), .vp [eBx b] 0 0, .vp [eBx d] 0 0, .any, I 0, I 0, I k, .any, .any, .any, .any, .any, .any, .any, .any, .any, .any, .any, .any, .any, .any, .any, .any, .any, .any, .any, .any, .any, .any, .any, .any, .any, .any, .any, .any, .any, .any, .any, .any, .any, .any, .any, .any, .any, .any, .any, .any, .any], [], 0⟩
theorem k_rCheckPath (b d : Bx) (l : List Vo) (h : mvE b d = 0 ∧ l.length ≤ 1099511627776) : FOk P 69 [eBx b, eBx d, .vs (l.map eVo)] (.tup [I (cpV b d l).1, I (cpV b d l).2]) := by
  obtain ⟨h, hl⟩ := h
  have hcp := cpE_mv (l := l) h
  have hz := h
  rw [mvE_first] at hz
  have z := firstE_zero hz
  have hb := (bxE_z (z (bxE b) (by simp))).1
  have hd := (dfE_z (z (dfE d) (by simp))).1
  rw [cpV]
  by_cases h0 : l.length = 0
  · have h0' : ((l.length : Int) = 0) = True := eq_true (by omega)
    have hc : cpE b d l = 10 := by rw [hcp, unl_f 10 (by omega)]; rfl
    rw [hc, if_neg (by decide)]
    refine c69.fok (by simp only [subs, sub1, free_Vo]) (Cor.run (addC_good g_rSteps (addC_good g_rHolds (noC_good _))) (noHx_good _) hm ?_)
    simp +contextual -implicitDefEqProofs (maxSteps := 2000000) only [bg_eq, a69, List.length_map, h0', ruB, rh_no, Int.reduceLT, Int.reduceLE, Int.reduceAdd, Int.reduceSub, Int.reduceMul, Int.reduceNeg, Int.reduceToNat, Int.reduceEq, Int.reduceNe, Int.reduceTDiv, Int.reduceTMod, implies_true, putL, appN, appX, appC, Eng.Fi, reduceCtorEq, exists_eq_left', exists_eq_left, if_true, if_false, List.replicate, Nat.reduceAdd, Nat.reduceSub, Nat.reduceMul, Nat.reduceLeDiff, Nat.reduceLT, Nat.reduceEqDiff]
  · have h0' : ((l.length : Int) = 0) = False := eq_false (by omega)
    by_cases h1 : 1001 < l.length
    · have h1' : ((1001 : Int) < (l.length : Int)) = True := eq_true (by omega)
      have hc : cpE b d l = 8 := by rw [hcp, unl_t 10 (by omega), unl_f 8 (by omega)]; rfl
      rw [hc, if_neg (by decide)]
      refine c69.fok (by simp only [subs, sub1, free_Vo]) (Cor.run (addC_good g_rSteps (addC_good g_rHolds (noC_good _))) (noHx_good _) hm ?_)
      simp +contextual -implicitDefEqProofs (maxSteps := 2000000) only [bg_eq, a69, List.length_map, h0', h1', ruB, rh_no, Int.reduceLT, Int.reduceLE, Int.reduceAdd, Int.reduceSub, Int.reduceMul, Int.reduceNeg, Int.reduceToNat, Int.reduceEq, Int.reduceNe, Int.reduceTDiv, Int.reduceTMod, implies_true, putL, appN, appX, appC, Eng.Fi, reduceCtorEq, exists_eq_left', exists_eq_left, if_true, if_false, List.replicate, Nat.reduceAdd, Nat.reduceSub, Nat.reduceMul, Nat.reduceLeDiff, Nat.reduceLT, Nat.reduceEqDiff]
    · have h1' : ((1001 : Int) < (l.length : Int)) = False := eq_false (by omega)
      have hc : cpE b d l = 0 := by rw [hcp, unl_t 10 (by omega), unl_t 8 (by omega)]; rfl
      rw [hc, if_pos rfl]
      refine c69.fok (by simp only [subs, sub1, free_Vo]) (Cor.run (addC_good g_rSteps (addC_good g_rHolds (noC_good _))) (noHx_good _) hm ?_)
      simp +contextual -implicitDefEqProofs (maxSteps := 2000000) only [bg_eq, a69, List.length_map, h0', h1', ruB, rh_no, Int.reduceLT, Int.reduceLE, Int.reduceAdd, Int.reduceSub, Int.reduceMul, Int.reduceNeg, Int.reduceToNat, Int.reduceEq, Int.reduceNe, Int.reduceTDiv, Int.reduceTMod, implies_true, putL, appN, appX, appC, Eng.Fi, reduceCtorEq, exists_eq_left', exists_eq_left, if_true, if_false, List.replicate, Nat.reduceAdd, Nat.reduceSub, Nat.reduceMul, Nat.reduceLeDiff, Nat.reduceLT, Nat.reduceEqDiff]
      refine Cor.lp (addC_good g_rSteps (addC_good g_rHolds (noC_good _))) (noHx_good _) hm (S_rc b d l) (fun k => k ≤ l.length ∧ (k = 0 ∨ ∃ j, ∃ hj : j < l.length, k = j + 1 ∧ hoP (afV b d j) l[j] ∧ cpG b d l = pgG d j l[j] (l.drop (j + 1)))) (fun k => l.length - k) (a := 0) ⟨Nat.zero_le _, .inl rfl⟩ (Wkn.to ⟨0, [], [0, 1], 0, [2, 3, 4, 6, 7, 8]⟩ rfl rfl (by simp [Wk.st, keepT, memN, Wk.fate, Wk.fate0, assoc, getE, Wk.hp, ABlk.sub, sub1, subs, S_rc, free_Vo])) ?_
      rintro f k ⟨hk, hc⟩ go
      rcases hc with rfl | ⟨j, hj, rfl, hv, hf⟩
      · have hl0 : 0 < l.length := by omega
        have e1 : ((0 : Int) < (l.length : Int)) = True := eq_true (by omega)
        have g0 : (l.map eVo)[0]? = some (eVo l[0]) := get_e eVo l hl0
        have y3 := x_rHolds b l[0]
        have lc : l = l[0] :: l.drop 1 := by
          have := List.drop_eq_getElem_cons hl0
          rwa [List.drop_zero] at this
        have ec : cpG b d l = if hoP b l[0] then pgG d 0 l[0] (l.drop 1) else (0, 17) := by
          conv => lhs; rw [lc]
          rfl
        have haf := af_zero (d := d) hb
        have hnx : hoP b l[0] → (1 ≤ l.length ∧ ((1 : Nat) = 0 ∨ ∃ j, ∃ hj : j < l.length, 1 = j + 1 ∧ hoP (afV b d j) l[j] ∧ cpG b d l = pgG d j l[j] (l.drop (j + 1)))) := fun hh => ⟨hl0, .inr ⟨0, hl0, rfl, by show hoP (afV b d 0) _; rw [haf]; exact hh, by rw [ec, if_pos hh]⟩⟩
        clear lc
        generalize l[0] = v at *
        by_cases hh : hoP b v
        · have hh' := eq_true hh
          simp +contextual -implicitDefEqProofs (maxSteps := 2000000) only [S_rc, List.length_map, e1, g0, y3, hh', Int.natCast_zero, ruB, rh_no, Int.reduceLT, Int.reduceLE, Int.reduceAdd, Int.reduceSub, Int.reduceMul, Int.reduceNeg, Int.reduceToNat, Int.reduceEq, Int.reduceNe, Int.reduceTDiv, Int.reduceTMod, implies_true, putL, appN, appX, appC, Eng.Fi, reduceCtorEq, exists_eq_left', exists_eq_left, if_true, if_false, List.replicate, Nat.reduceAdd, Nat.reduceSub, Nat.reduceMul, Nat.reduceLeDiff, Nat.reduceLT, Nat.reduceEqDiff]
          exact go _ 1 (hnx hh) (by omega) (Wkn.to ⟨0, [], [], 0, [2, 3, 4, 6, 7, 8]⟩ rfl rfl (by simp only [Wk.st, keepT, sub1, subs, Wk.hp, ABlk.sub, S_rc, free_Vo]; try rfl))
        · have hh' := eq_false hh
          rw [ec, if_neg hh]
          simp +contextual -implicitDefEqProofs (maxSteps := 2000000) only [S_rc, List.length_map, e1, g0, y3, hh', Int.natCast_zero, ruB, rh_no, Int.reduceLT, Int.reduceLE, Int.reduceAdd, Int.reduceSub, Int.reduceMul, Int.reduceNeg, Int.reduceToNat, Int.reduceEq, Int.reduceNe, Int.reduceTDiv, Int.reduceTMod, implies_true, putL, appN, appX, appC, Eng.Fi, reduceCtorEq, exists_eq_left', exists_eq_left, if_true, if_false, List.replicate, Nat.reduceAdd, Nat.reduceSub, Nat.reduceMul, Nat.reduceLeDiff, Nat.reduceLT, Nat.reduceEqDiff]
      · rcases Nat.lt_or_ge (j + 1) l.length with hlt | hge
        · have e1 : (((j + 1 : Nat) : Int) < (l.length : Int)) = True := eq_true (by omega)
          have e5 : (((j + 1 : Nat) : Int) = 0) = False := eq_false (by omega)
          have e6 : ((0 : Int) < ((j + 1 : Nat) : Int)) = True := eq_true (by omega)
          have e2 : (l.map eVo)[j + 1]? = some (eVo l[j + 1]) := get_e eVo l hlt
          have e4 : (l.map eVo)[j]? = some (eVo l[j]) := get_e eVo l hj
          have e3 : IntKind.wrap .i64 (((j + 1 : Nat) : Int) + 1) = ((j + 1 + 1 : Nat) : Int) := suc_w (by omega)
          have e7 : IntKind.wrap .i64 (((j + 1 : Nat) : Int) - 1) = (j : Int) := by rw [wrap64 (by omega) (by omega)]; omega
          have hs : voS l[j] := ho_sm hb hd (k := (j : Int)) (by omega) hv
          have y3 := x_rSteps l[j] l[j + 1] d (by simp only [eq_iff_iff, iff_true]; exact ⟨hs, hd⟩)
          have hnx : stP d l[j] l[j + 1] → (j + 1 + 1 ≤ l.length ∧ (j + 1 + 1 = 0 ∨ ∃ j', ∃ hj : j' < l.length, j + 1 + 1 = j' + 1 ∧ hoP (afV b d j') l[j'] ∧ cpG b d l = pgG d j' l[j'] (l.drop (j' + 1)))) := fun hst => ⟨hlt, .inr ⟨j + 1, hlt, rfl, ho_step hd hv hst, by rw [hf, List.drop_eq_getElem_cons hlt, pgG, if_pos hst]⟩⟩
          rw [List.drop_eq_getElem_cons hlt, pgG] at hf
          generalize l[j] = v at *
          generalize l[j + 1] = w at *
          generalize ej : j + 1 = jj at *
          by_cases hh : stP d v w
          · have hh' := eq_true hh
            simp +contextual -implicitDefEqProofs (maxSteps := 2000000) only [S_rc, List.length_map, e1, e2, e3, e4, e5, e6, e7, y3, hh', ruB, rh_no, Int.reduceLT, Int.reduceLE, Int.reduceAdd, Int.reduceSub, Int.reduceMul, Int.reduceNeg, Int.reduceToNat, Int.reduceEq, Int.reduceNe, Int.reduceTDiv, Int.reduceTMod, implies_true, putL, appN, appX, appC, Eng.Fi, reduceCtorEq, exists_eq_left', exists_eq_left, if_true, if_false, List.replicate, Nat.reduceAdd, Nat.reduceSub, Nat.reduceMul, Nat.reduceLeDiff, Nat.reduceLT, Nat.reduceEqDiff]
            exact go _ (jj + 1) (hnx hh) (by omega) (Wkn.to ⟨0, [], [], 0, [2, 3, 4, 6, 7, 8]⟩ rfl rfl (by simp only [Wk.st, keepT, sub1, subs, Wk.hp, ABlk.sub, S_rc, free_Vo]; try rfl))
          · have hh' := eq_false hh
            rw [if_neg hh] at hf
            rw [hf]
            simp +contextual -implicitDefEqProofs (maxSteps := 2000000) only [S_rc, List.length_map, e1, e2, e3, e4, e5, e6, e7, y3, hh', ruB, rh_no, Int.reduceLT, Int.reduceLE, Int.reduceAdd, Int.reduceSub, Int.reduceMul, Int.reduceNeg, Int.reduceToNat, Int.reduceEq, Int.reduceNe, Int.reduceTDiv, Int.reduceTMod, implies_true, putL, appN, appX, appC, Eng.Fi, reduceCtorEq, exists_eq_left', exists_eq_left, if_true, if_false, List.replicate, Nat.reduceAdd, Nat.reduceSub, Nat.reduceMul, Nat.reduceLeDiff, Nat.reduceLT, Nat.reduceEqDiff]
        · have e1 : (((j + 1 : Nat) : Int) < (l.length : Int)) = False := eq_false (by omega)
          rw [List.drop_eq_nil_of_le hge, pgG] at hf
          rw [hf]
          simp +contextual -implicitDefEqProofs (maxSteps := 2000000) only [S_rc, List.length_map, e1, ruB, rh_no, Int.reduceLT, Int.reduceLE, Int.reduceAdd, Int.reduceSub, Int.reduceMul, Int.reduceNeg, Int.reduceToNat, Int.reduceEq, Int.reduceNe, Int.reduceTDiv, Int.reduceTMod, implies_true, putL, appN, appX, appC, Eng.Fi, reduceCtorEq, exists_eq_left', exists_eq_left, if_true, if_false, List.replicate, Nat.reduceAdd, Nat.reduceSub, Nat.reduceMul, Nat.reduceLeDiff, Nat.reduceLT, Nat.reduceEqDiff]
def cf_rCheckPath : List AV → Option AV
  | [.agg [.int .i64 b_yl, .int .i64 b_yh, .int .i64 b_zl, .int .i64 b_zh, .int .i64 b_sl, .int .i64 b_sh], .agg [.int .i64 d_yl, .int .i64 d_yh, .int .i64 d_zl, .int .i64 d_zh, .int .i64 d_sl, .int .i64 d_sh], .vs l_v] => onL dVo l_v fun l => if mvE (⟨b_yl, b_yh, b_zl, b_zh, b_sl, b_sh⟩ : Bx) (⟨d_yl, d_yh, d_zl, d_zh, d_sl, d_sh⟩ : Bx) = 0 ∧ l.length ≤ 1099511627776 then some (.tup [I (cpV (⟨b_yl, b_yh, b_zl, b_zh, b_sl, b_sh⟩ : Bx) (⟨d_yl, d_yh, d_zl, d_zh, d_sl, d_sh⟩ : Bx) l).1, I (cpV (⟨b_yl, b_yh, b_zl, b_zh, b_sl, b_sh⟩ : Bx) (⟨d_yl, d_yh, d_zl, d_zh, d_sl, d_sh⟩ : Bx) l).2]) else none
  | _ => none
theorem g_rCheckPath : Fn P 69 cf_rCheckPath := fun args v hh => by
  unfold cf_rCheckPath at hh; split at hh
  · obtain ⟨l, rfl, hh1⟩ := onL_inv dVo_inv hh
    split at hh1
    · rename_i hc; have hk := Option.some.inj hh1; subst hk; exact k_rCheckPath ⟨_, _, _, _, _, _⟩ ⟨_, _, _, _, _, _⟩ _ hc
    · cases hh1
  · cases hh
theorem x_rCheckPath (b : Bx) (d : Bx) (l : List Vo) (hc : (mvE b d = 0 ∧ l.length ≤ 1099511627776) = True) : cf_rCheckPath [.agg [I b.yl, I b.yh, I b.zl, I b.zh, I b.sl, I b.sh], .agg [I d.yl, I d.yh, I d.zl, I d.zh, I d.sl, I d.sh], .vs (l.map eVo)] = some (.tup [I (cpV b d l).1, I (cpV b d l).2]) := by
  simp only [cf_rCheckPath, onL_map dVo_e]
  exact if_pos (by rw [hc]; trivial)
end Wa
