import Derived.Test.YtiianhoefakcdaaEngS9
import Derived.Test.YtiianhoefakcdaaW11t
open Go Go.Proofs Eng
set_option maxRecDepth 100000
set_option linter.unusedSimpArgs false
set_option linter.unusedVariables false

namespace Wa
set_option maxHeartbeats 4000000 in
theorem tw_main (b d : Bx) (l : List Vo) (er ev : Int) (c : Co) (hg : gTw b d l er ev c) (h0 : ∃ h : 0 < l.length, hoP b l[0]) (hs : ∀ k, ∀ h : k + 1 < l.length, stP d l[k] l[k + 1]) (hc : cpG b d l = (0, 0)) : FOk P 3 [FL b l, eBx d, SE er ev c] (.bool true) := by
  have y1 := x_rMovesErr b d
  have y2 := x_rCorridorErr c
  have hq := gTw_or hg
  obtain ⟨u1, u2, u3, u4, u5, u6, u7⟩ := hg
  obtain ⟨b1, b2⟩ := mvE_z u1
  have y3 := x_CopyVortices l (by simp only [eq_iff_iff, iff_true]; omega)
  have y4 := x_CheckPath b d l (by simp only [eq_iff_iff, iff_true]; omega)
  rw [cp_ok b1 b2 u4 (by omega), hc] at y4
  have hb := bxE_z b1
  have hd := (dfE_z b2).1
  have hco : coR c ∧ c.fr ≤ c.to := by
    have z3 := firstE_zero u2
    exact ⟨unl_zero (z3 (unl (coR c) 2) (by simp)) (by decide), unl_zero (z3 (unl (c.fr ≤ c.to) 9) (by simp)) (by decide)⟩
  have hfr : tiR c.fr := hco.1.1.2
  have hto : tiR c.to := hco.1.2
  unfold tiR at hfr hto
  refine c3.fok (y := YH P noHx) (by simp only [subs, sub1, free_Vo]) ?_
  rw [bg_eq]
  refine Cor.seq (Cor.run (noC_good _) (noHx_good _) hm ?_)
  simp +contextual -implicitDefEqProofs (maxSteps := 2000000) only [eThen_normal, ruB, rh_no, Int.reduceLT, Int.reduceLE, Int.reduceAdd, Int.reduceSub, Int.reduceMul, Int.reduceNeg, Int.reduceToNat, Int.reduceEq, Int.reduceNe, Int.reduceTDiv, Int.reduceTMod, implies_true, putL, appN, appX, appC, Eng.Fi, reduceCtorEq, exists_eq_left', exists_eq_left, if_true, if_false, List.replicate, Nat.reduceAdd, Nat.reduceSub, Nat.reduceMul, Nat.reduceLeDiff, Nat.reduceLT, Nat.reduceEqDiff]
  refine Cor.wk (s2 := S_tw b d l er ev c) (Wkn.to ⟨0, [], [0, 1, 2], 0, [3, 4, 5]⟩ rfl rfl (by simp [Wk.st, keepT, memN, Wk.fate, Wk.fate0, assoc, getE, Wk.hp, ABlk.sub, sub1, subs, S_tw, FL, SE, free_Vo])) ?_
  refine Cor.seq (Cor.run (addC_good g_wakeShown (noC_good _)) (noHx_good _) hm ?_)
  simp +contextual -implicitDefEqProofs (maxSteps := 2000000) only [S_tw, x_wakeShown, eThen_normal, ruB, rh_no, Int.reduceLT, Int.reduceLE, Int.reduceAdd, Int.reduceSub, Int.reduceMul, Int.reduceNeg, Int.reduceToNat, Int.reduceEq, Int.reduceNe, Int.reduceTDiv, Int.reduceTMod, implies_true, putL, appN, appX, appC, Eng.Fi, reduceCtorEq, exists_eq_left', exists_eq_left, if_true, if_false, List.replicate, Nat.reduceAdd, Nat.reduceSub, Nat.reduceMul, Nat.reduceLeDiff, Nat.reduceLT, Nat.reduceEqDiff]
  refine Cor.seq (Cor.run (addC_good g_Within (addC_good g_rCorridorErr (addC_good g_rMovesErr (noC_good _)))) (noHx_good _) hm ?_)
  simp +contextual -implicitDefEqProofs (maxSteps := 2000000) only [FL, SE, y1, y2, x_Within, List.length_map, hq, eThen_normal, ruB, rh_no, Int.reduceLT, Int.reduceLE, Int.reduceAdd, Int.reduceSub, Int.reduceMul, Int.reduceNeg, Int.reduceToNat, Int.reduceEq, Int.reduceNe, Int.reduceTDiv, Int.reduceTMod, implies_true, putL, appN, appX, appC, Eng.Fi, reduceCtorEq, exists_eq_left', exists_eq_left, if_true, if_false, List.replicate, Nat.reduceAdd, Nat.reduceSub, Nat.reduceMul, Nat.reduceLeDiff, Nat.reduceLT, Nat.reduceEqDiff]
  refine Cor.seq (Cor.run (addC_good g_CheckPath (addC_good g_CopyVortices (noC_good _))) (noHx_good _) hm ?_)
  simp +contextual -implicitDefEqProofs (maxSteps := 2000000) only [FL, SE, y3, y4, List.length_map, eThen_normal, free_Vo, not_true_eq_false, ruB, rh_no, Int.reduceLT, Int.reduceLE, Int.reduceAdd, Int.reduceSub, Int.reduceMul, Int.reduceNeg, Int.reduceToNat, Int.reduceEq, Int.reduceNe, Int.reduceTDiv, Int.reduceTMod, implies_true, putL, appN, appX, appC, Eng.Fi, reduceCtorEq, exists_eq_left', exists_eq_left, if_true, if_false, List.replicate, Nat.reduceAdd, Nat.reduceSub, Nat.reduceMul, Nat.reduceLeDiff, Nat.reduceLT, Nat.reduceEqDiff]
  refine Cor.seq (Cor.run (noC_good _) (noHx_good _) hm ?_)
  simp +contextual -implicitDefEqProofs (maxSteps := 2000000) only [FL, SE, List.length_map, eThen_normal, ruB, rh_no, Int.reduceLT, Int.reduceLE, Int.reduceAdd, Int.reduceSub, Int.reduceMul, Int.reduceNeg, Int.reduceToNat, Int.reduceEq, Int.reduceNe, Int.reduceTDiv, Int.reduceTMod, implies_true, putL, appN, appX, appC, Eng.Fi, reduceCtorEq, exists_eq_left', exists_eq_left, if_true, if_false, List.replicate, Nat.reduceAdd, Nat.reduceSub, Nat.reduceMul, Nat.reduceLeDiff, Nat.reduceLT, Nat.reduceEqDiff]
  refine Cor.seq (Cor.seq (Cor.run (noC_good _) (noHx_good _) hm ?_))
  simp +contextual -implicitDefEqProofs (maxSteps := 2000000) only [eThen_normal, ruB, rh_no, Int.reduceLT, Int.reduceLE, Int.reduceAdd, Int.reduceSub, Int.reduceMul, Int.reduceNeg, Int.reduceToNat, Int.reduceEq, Int.reduceNe, Int.reduceTDiv, Int.reduceTMod, implies_true, putL, appN, appX, appC, Eng.Fi, reduceCtorEq, exists_eq_left', exists_eq_left, if_true, if_false, List.replicate, Nat.reduceAdd, Nat.reduceSub, Nat.reduceMul, Nat.reduceLeDiff, Nat.reduceLT, Nat.reduceEqDiff]
  refine Cor.block (Cor.loopC (S_twl b d l er ev c) (Itw b d l ev) (fun p => (24 - p.1).toNat) (a := (0, b)) ?_ ⟨⟨by simp, by simp⟩, .inl ⟨rfl, rfl⟩⟩ (Wkn.to ⟨0, [(0, 0)], [], 1, [3, 4, 5, 9, 10]⟩ rfl rfl (by simp [Wk.st, keepT, memN, Wk.fate, Wk.fate0, assoc, getE, Wk.hp, ABlk.sub, sub1, subs, S_twl, FL, SE, free_Vo])))
  rintro ⟨t, bb⟩ hI
  by_cases ht : t < (l.length : Int)
  · have e1 : decide (t < (l.length : Int)) = true := decide_eq_true ht
    obtain ⟨now, hnow, ⟨htl, hho⟩, hsub⟩ := Itw_now b1 b2 u7 h0 hs hI ht
    have htb : 0 ≤ t ∧ t ≤ 24 := hI.1
    have e2 : (l.map eVo)[t.toNat]? = some (eVo l[t.toNat]) := get_e eVo l htl
    have e3 : (0 ≤ t) = True := eq_true htb.1
    have hsm := ho_sm (bxE_z b1).1 hd (k := t) (by omega) (by
      unfold hoP at hho ⊢
      unfold subP at hsub
      omega : hoP (afV b d t) l[t.toNat])
    obtain ⟨v, hv⟩ : ∃ v, l[t.toNat] = v := ⟨_, rfl⟩
    rw [hv] at e2 hsm hho
    refine Cor.seq (Cor.run (noC_good _) (noHx_good _) hm ?_)
    simp +contextual -implicitDefEqProofs (maxSteps := 2000000) only [S_twl, FL, SE, List.length_map, e1, eThen_normal, ruB, rh_no, Int.reduceLT, Int.reduceLE, Int.reduceAdd, Int.reduceSub, Int.reduceMul, Int.reduceNeg, Int.reduceToNat, Int.reduceEq, Int.reduceNe, Int.reduceTDiv, Int.reduceTMod, implies_true, putL, appN, appX, appC, Eng.Fi, reduceCtorEq, exists_eq_left', exists_eq_left, if_true, if_false, List.replicate, Nat.reduceAdd, Nat.reduceSub, Nat.reduceMul, Nat.reduceLeDiff, Nat.reduceLT, Nat.reduceEqDiff]
    refine Cor.seq (Cor.block (Cor.seq (Cor.run (noC_good _) (noHx_good _) hm ?_)))
    simp +contextual -implicitDefEqProofs (maxSteps := 2000000) only [List.length_map, e2, e3, eThen_normal, ruB, rh_no, Int.reduceLT, Int.reduceLE, Int.reduceAdd, Int.reduceSub, Int.reduceMul, Int.reduceNeg, Int.reduceToNat, Int.reduceEq, Int.reduceNe, Int.reduceTDiv, Int.reduceTMod, implies_true, putL, appN, appX, appC, Eng.Fi, reduceCtorEq, exists_eq_left', exists_eq_left, if_true, if_false, List.replicate, Nat.reduceAdd, Nat.reduceSub, Nat.reduceMul, Nat.reduceLeDiff, Nat.reduceLT, Nat.reduceEqDiff]
    refine Cor.seq (Cor.mono (K := fun e s' => e = .normal ∧ Wkn 0 s' (S_twm b d l er ev c t now v)) ?_ ?_)
    · rcases hnow with ⟨hz, rfl⟩ | ⟨hz, hn1, hn2⟩
      · have q : (0 < t) = False := eq_false (by omega)
        refine Cor.run (noC_good _) (noHx_good _) hm ?_
        simp +contextual -implicitDefEqProofs (maxSteps := 2000000) only [q, ruB, rh_no, Int.reduceLT, Int.reduceLE, Int.reduceAdd, Int.reduceSub, Int.reduceMul, Int.reduceNeg, Int.reduceToNat, Int.reduceEq, Int.reduceNe, Int.reduceTDiv, Int.reduceTMod, implies_true, putL, appN, appX, appC, Eng.Fi, reduceCtorEq, exists_eq_left', exists_eq_left, if_true, if_false, List.replicate, Nat.reduceAdd, Nat.reduceSub, Nat.reduceMul, Nat.reduceLeDiff, Nat.reduceLT, Nat.reduceEqDiff]
        exact Wkn.to ⟨0, [(0, 0)], [1], 1, [3, 4, 5, 9, 10, 11]⟩ rfl rfl (by simp [Wk.st, keepT, memN, Wk.fate, Wk.fate0, assoc, getE, Wk.hp, ABlk.sub, sub1, subs, S_twm, FL, SE, free_Vo])
      · have q : (0 < t) = True := eq_true hz
        have y5 := x_BoxAfter bb d ev
        rw [hn2] at y5
        clear hn1
        refine Cor.run (addC_good g_BoxAfter (noC_good _)) (noHx_good _) hm ?_
        simp +contextual -implicitDefEqProofs (maxSteps := 2000000) only [q, y5, not_true_eq_false, ruB, rh_no, Int.reduceLT, Int.reduceLE, Int.reduceAdd, Int.reduceSub, Int.reduceMul, Int.reduceNeg, Int.reduceToNat, Int.reduceEq, Int.reduceNe, Int.reduceTDiv, Int.reduceTMod, implies_true, putL, appN, appX, appC, Eng.Fi, reduceCtorEq, exists_eq_left', exists_eq_left, if_true, if_false, List.replicate, Nat.reduceAdd, Nat.reduceSub, Nat.reduceMul, Nat.reduceLeDiff, Nat.reduceLT, Nat.reduceEqDiff]
        exact Wkn.to ⟨0, [(0, 0)], [1], 1, [3, 4, 5, 9, 10, 11]⟩ rfl rfl (by simp [Wk.st, keepT, memN, Wk.fate, Wk.fate0, assoc, getE, Wk.hp, ABlk.sub, sub1, subs, S_twm, FL, SE, free_Vo])
    · rintro _ s' ⟨rfl, hw⟩
      refine Cor.wk hw ?_
      clear hw
      have w1 : IntKind.wrap .i64 (v.y - er) = v.y - er := wrap64 (by omega) (by omega)
      have w2 : IntKind.wrap .i64 (v.y + er) = v.y + er := wrap64 (by omega) (by omega)
      have w3 : IntKind.wrap .i64 (v.z - er) = v.z - er := wrap64 (by omega) (by omega)
      have w4 : IntKind.wrap .i64 (v.z + er) = v.z + er := wrap64 (by omega) (by omega)
      have w5 : IntKind.wrap .i64 (v.s - er) = v.s - er := wrap64 (by omega) (by omega)
      have w6 : IntKind.wrap .i64 (v.s + er) = v.s + er := wrap64 (by omega) (by omega)
      have y5 := x_rBoxErr now
      have y6 := x_rBoxErr (snB v er)
      have hsn : hoP (snB v er) v := by
        unfold hoP snB
        simp only
        omega
      by_cases c1 : bxE now = 0
      · have c1' := eq_true c1
        by_cases c2 : bxE (snB v er) = 0
        · have c2' := eq_true c2
          obtain ⟨hmn, hme⟩ := me_ok c1 c2 hho hsn
          have y7 := x_MeetOf now (snB v er)
          have z7 : mbE now (snB v er) = 0 := firstE_all (by simp [c1, c2])
          rw [mbV, if_pos z7, if_pos hmn] at y7
          have y8 := x_BoxAfter b d t
          rw [baE_ok b1 b2 (by unfold tiR; omega)] at y8
          have hmv := ho_meet hho hsn
          have y9 := x_rHolds (meB now (snB v er)) v
          rw [decide_eq_true hmv] at y9
          have y10 := x_rBoxErr (meB now (snB v er))
          rw [hme] at y10
          have hsm2 : subP (meB now (snB v er)) (afV b d t) := sub_trans (sub_meet _ _) hsub
          have y11 := x_rMeet (meB now (snB v er)) (afV b d t)
          rw [mtV, if_pos (mn_sub hsm2 hme), meet_sub hsm2] at y11
          have y12 := x_IsFree (meB now (snB v er)) d c
          have z12 : ocE (meB now (snB v er)) d c = 0 := firstE_all (by simp [hme, b2, u2])
          rw [iFV, if_pos z12] at y12
          have hpa := ho_path (bxE_z hme).1 hd hs htl (by rw [hv]; exact hmv)
          have hfree := free_no (m := meB now (snB v er)) (d := d) (c := c)
          simp only [snB] at y6 y7 c2'
          generalize hwh : afV b d t = whole at *
          have hm' : ∃ m, meB now (snB v er) = m := ⟨_, rfl⟩
          obtain ⟨m, hmm⟩ := hm'
          simp only [snB] at hmm
          simp only [snB, hmm] at y7 y9 y10 y11 y12 hpa hfree hmv hme hsm2
          generalize iF m d c = n at *
          refine Cor.run (addC_good g_rRegion (addC_good g_IsFree (addC_good g_rMeet (addC_good g_rHolds (addC_good g_BoxAfter (addC_good g_MeetOf (addC_good g_rBoxErr (noC_good _)))))))) (noHx_good _) hm ?_
          simp +contextual -implicitDefEqProofs (maxSteps := 2000000) only [S_twm, w1, w2, w3, w4, w5, w6, y5, y6, y7, y8, y9, y10, y11, y12, c1', c2', not_true_eq_false, not_false_eq_true, ruB, rh_no, Int.reduceLT, Int.reduceLE, Int.reduceAdd, Int.reduceSub, Int.reduceMul, Int.reduceNeg, Int.reduceToNat, Int.reduceEq, Int.reduceNe, Int.reduceTDiv, Int.reduceTMod, implies_true, putL, appN, appX, appC, Eng.Fi, reduceCtorEq, exists_eq_left', exists_eq_left, if_true, if_false, List.replicate, Nat.reduceAdd, Nat.reduceSub, Nat.reduceMul, Nat.reduceLeDiff, Nat.reduceLT, Nat.reduceEqDiff]
          clear y5 y6 y7 y8 y9 y10 y11 y12 w1 w2 w3 w4 w5 w6
          refine Cor.wk (s2 := S_twi b d l er ev c t m n c.fr) (Wkn.to ⟨0, [(0, 0)], [], 1, [3, 4, 5, 9, 10, 21, 23]⟩ rfl rfl (by simp [Wk.st, keepT, memN, Wk.fate, Wk.fate0, assoc, getE, Wk.hp, ABlk.sub, sub1, subs, S_twi, FL, SE, free_Vo])) ?_
          refine Cor.lp (addC_good g_rRegion (addC_good g_IsFree (addC_good g_rMeet (addC_good g_rHolds (addC_good g_BoxAfter (addC_good g_MeetOf (addC_good g_rBoxErr (noC_good _)))))))) (noHx_good _) hm (S_twi b d l er ev c t m n) (fun k => c.fr ≤ k ∧ k ≤ c.to + 1) (fun k => (c.to + 1 - k).toNat) (a := c.fr) ⟨Int.le_refl _, by omega⟩ Wkn.rfl ?_
          intro f k ⟨hk1, hk2⟩ go
          have wk : IntKind.wrap .i64 (t + k) = t + k := wrap64 (by omega) (by omega)
          have wk1 : IntKind.wrap .i64 (k + 1) = k + 1 := wrap64 (by omega) (by omega)
          have wev : IntKind.wrap .i64 (t + ev) = t + ev := wrap64 (by omega) (by omega)
          have fin : Itw b d l ev (t + ev, m) := by
            refine ⟨⟨by simp only; omega, by simp only; omega⟩, .inr ⟨by simp only; omega, ?_⟩⟩
            have e : (t + ev - ev) = t := by omega
            refine ⟨by simp only [e]; exact htl, hme, ?_, ?_⟩
            · simp only [e, hv]; exact hmv
            · simp only [e, hwh]; exact hsm2
          by_cases g1 : k ≤ c.to
          · have g1' := eq_true g1
            by_cases g2 : t + k < (l.length : Int)
            · have g2' := eq_true g2
              have hlk : (t + k).toNat < l.length := by omega
              have e4 : (l.map eVo)[(t + k).toNat]? = some (eVo l[(t + k).toNat]) := get_e eVo l hlk
              have e5 : (0 ≤ t + k) = True := eq_true (by omega)
              have y13 := x_rRegion c
              have y14 := x_rHolds (reG c) l[(t + k).toNat]
              have hno : n = 2 → ¬ hoP (reG c) l[(t + k).toNat] := fun hn => by
                have e : t.toNat + k.toNat = (t + k).toNat := by omega
                have e' : ((k.toNat : Nat) : Int) = k := by omega
                have := hpa k.toNat (by omega)
                simp only [e, e'] at this
                exact hfree hn hk1 g1 this
              generalize l[(t + k).toNat] = u at *
              by_cases g3 : n = 2
              · have g3' := eq_true g3
                have g4' := eq_false (hno g3)
                simp +contextual -implicitDefEqProofs (maxSteps := 2000000) only [S_twi, wk, wk1, g1', g2', g3', g4', e4, e5, y13, y14, List.length_map, not_true_eq_false, not_false_eq_true, ruB, rh_no, Int.reduceLT, Int.reduceLE, Int.reduceAdd, Int.reduceSub, Int.reduceMul, Int.reduceNeg, Int.reduceToNat, Int.reduceEq, Int.reduceNe, Int.reduceTDiv, Int.reduceTMod, implies_true, putL, appN, appX, appC, Eng.Fi, reduceCtorEq, exists_eq_left', exists_eq_left, if_true, if_false, List.replicate, Nat.reduceAdd, Nat.reduceSub, Nat.reduceMul, Nat.reduceLeDiff, Nat.reduceLT, Nat.reduceEqDiff]
                exact go _ (k + 1) ⟨by omega, by omega⟩ (by omega) (Wkn.keep [3, 4, 5, 9, 10, 21, 23] rfl)
              · have g3' := eq_false g3
                simp +contextual -implicitDefEqProofs (maxSteps := 2000000) only [S_twi, wk, wk1, g1', g2', g3', List.length_map, not_true_eq_false, not_false_eq_true, ruB, rh_no, Int.reduceLT, Int.reduceLE, Int.reduceAdd, Int.reduceSub, Int.reduceMul, Int.reduceNeg, Int.reduceToNat, Int.reduceEq, Int.reduceNe, Int.reduceTDiv, Int.reduceTMod, implies_true, putL, appN, appX, appC, Eng.Fi, reduceCtorEq, exists_eq_left', exists_eq_left, if_true, if_false, List.replicate, Nat.reduceAdd, Nat.reduceSub, Nat.reduceMul, Nat.reduceLeDiff, Nat.reduceLT, Nat.reduceEqDiff]
                exact go _ (k + 1) ⟨by omega, by omega⟩ (by omega) (Wkn.keep [3, 4, 5, 9, 10, 21, 23] rfl)
            · have g2' := eq_false g2
              simp +contextual -implicitDefEqProofs (maxSteps := 2000000) only [S_twi, wk, g1', g2', List.length_map, not_true_eq_false, not_false_eq_true, eThen_normal, eBlk_normal, ruB, rh_no, Int.reduceLT, Int.reduceLE, Int.reduceAdd, Int.reduceSub, Int.reduceMul, Int.reduceNeg, Int.reduceToNat, Int.reduceEq, Int.reduceNe, Int.reduceTDiv, Int.reduceTMod, implies_true, putL, appN, appX, appC, Eng.Fi, reduceCtorEq, exists_eq_left', exists_eq_left, if_true, if_false, List.replicate, Nat.reduceAdd, Nat.reduceSub, Nat.reduceMul, Nat.reduceLeDiff, Nat.reduceLT, Nat.reduceEqDiff]
              refine Cor.run (noC_good _) (noHx_good _) hm ?_
              simp +contextual -implicitDefEqProofs (maxSteps := 2000000) only [wev, eThen_normal, ruB, rh_no, Int.reduceLT, Int.reduceLE, Int.reduceAdd, Int.reduceSub, Int.reduceMul, Int.reduceNeg, Int.reduceToNat, Int.reduceEq, Int.reduceNe, Int.reduceTDiv, Int.reduceTMod, implies_true, putL, appN, appX, appC, Eng.Fi, reduceCtorEq, exists_eq_left', exists_eq_left, if_true, if_false, List.replicate, Nat.reduceAdd, Nat.reduceSub, Nat.reduceMul, Nat.reduceLeDiff, Nat.reduceLT, Nat.reduceEqDiff]
              exact ⟨(t + ev, m), fin, by simp only; omega, Wkn.keep [3, 4, 5, 9, 10] rfl⟩
          · have g1' := eq_false g1
            simp +contextual -implicitDefEqProofs (maxSteps := 2000000) only [S_twi, wk, g1', List.length_map, not_true_eq_false, not_false_eq_true, eThen_normal, eBlk_normal, ruB, rh_no, Int.reduceLT, Int.reduceLE, Int.reduceAdd, Int.reduceSub, Int.reduceMul, Int.reduceNeg, Int.reduceToNat, Int.reduceEq, Int.reduceNe, Int.reduceTDiv, Int.reduceTMod, implies_true, putL, appN, appX, appC, Eng.Fi, reduceCtorEq, exists_eq_left', exists_eq_left, if_true, if_false, List.replicate, Nat.reduceAdd, Nat.reduceSub, Nat.reduceMul, Nat.reduceLeDiff, Nat.reduceLT, Nat.reduceEqDiff]
            refine Cor.run (noC_good _) (noHx_good _) hm ?_
            simp +contextual -implicitDefEqProofs (maxSteps := 2000000) only [wev, eThen_normal, ruB, rh_no, Int.reduceLT, Int.reduceLE, Int.reduceAdd, Int.reduceSub, Int.reduceMul, Int.reduceNeg, Int.reduceToNat, Int.reduceEq, Int.reduceNe, Int.reduceTDiv, Int.reduceTMod, implies_true, putL, appN, appX, appC, Eng.Fi, reduceCtorEq, exists_eq_left', exists_eq_left, if_true, if_false, List.replicate, Nat.reduceAdd, Nat.reduceSub, Nat.reduceMul, Nat.reduceLeDiff, Nat.reduceLT, Nat.reduceEqDiff]
            exact ⟨(t + ev, m), fin, by simp only; omega, Wkn.keep [3, 4, 5, 9, 10] rfl⟩
        · have c2' := eq_false c2
          simp only [snB] at y6 c2'
          refine Cor.run (addC_good g_rBoxErr (noC_good _)) (noHx_good _) hm ?_
          simp +contextual -implicitDefEqProofs (maxSteps := 2000000) only [S_twm, w1, w2, w3, w4, w5, w6, y5, y6, c1', c2', not_true_eq_false, not_false_eq_true, eThen_ret, eBlk_ret, ruB, rh_no, Int.reduceLT, Int.reduceLE, Int.reduceAdd, Int.reduceSub, Int.reduceMul, Int.reduceNeg, Int.reduceToNat, Int.reduceEq, Int.reduceNe, Int.reduceTDiv, Int.reduceTMod, implies_true, putL, appN, appX, appC, Eng.Fi, reduceCtorEq, exists_eq_left', exists_eq_left, if_true, if_false, List.replicate, Nat.reduceAdd, Nat.reduceSub, Nat.reduceMul, Nat.reduceLeDiff, Nat.reduceLT, Nat.reduceEqDiff]
      · have c1' := eq_false c1
        refine Cor.run (addC_good g_rBoxErr (noC_good _)) (noHx_good _) hm ?_
        simp +contextual -implicitDefEqProofs (maxSteps := 2000000) only [S_twm, w1, w2, w3, w4, w5, w6, y5, c1', not_true_eq_false, not_false_eq_true, eThen_ret, eBlk_ret, ruB, rh_no, Int.reduceLT, Int.reduceLE, Int.reduceAdd, Int.reduceSub, Int.reduceMul, Int.reduceNeg, Int.reduceToNat, Int.reduceEq, Int.reduceNe, Int.reduceTDiv, Int.reduceTMod, implies_true, putL, appN, appX, appC, Eng.Fi, reduceCtorEq, exists_eq_left', exists_eq_left, if_true, if_false, List.replicate, Nat.reduceAdd, Nat.reduceSub, Nat.reduceMul, Nat.reduceLeDiff, Nat.reduceLT, Nat.reduceEqDiff]
  · have e1 : decide (t < (l.length : Int)) = false := decide_eq_false ht
    refine Cor.seq (Cor.run (noC_good _) (noHx_good _) hm ?_)
    simp +contextual -implicitDefEqProofs (maxSteps := 2000000) only [S_twl, FL, SE, List.length_map, e1, eThen_exit, eBlk_exit, eThen_normal, ruB, rh_no, Int.reduceLT, Int.reduceLE, Int.reduceAdd, Int.reduceSub, Int.reduceMul, Int.reduceNeg, Int.reduceToNat, Int.reduceEq, Int.reduceNe, Int.reduceTDiv, Int.reduceTMod, implies_true, putL, appN, appX, appC, Eng.Fi, reduceCtorEq, exists_eq_left', exists_eq_left, if_true, if_false, List.replicate, Nat.reduceAdd, Nat.reduceSub, Nat.reduceMul, Nat.reduceLeDiff, Nat.reduceLT, Nat.reduceEqDiff]
    refine Cor.run (noC_good _) (noHx_good _) hm ?_
    simp +contextual -implicitDefEqProofs (maxSteps := 2000000) only [ruB, rh_no, Int.reduceLT, Int.reduceLE, Int.reduceAdd, Int.reduceSub, Int.reduceMul, Int.reduceNeg, Int.reduceToNat, Int.reduceEq, Int.reduceNe, Int.reduceTDiv, Int.reduceTMod, implies_true, putL, appN, appX, appC, Eng.Fi, reduceCtorEq, exists_eq_left', exists_eq_left, if_true, if_false, List.replicate, Nat.reduceAdd, Nat.reduceSub, Nat.reduceMul, Nat.reduceLeDiff, Nat.reduceLT, Nat.reduceEqDiff]
end Wa
