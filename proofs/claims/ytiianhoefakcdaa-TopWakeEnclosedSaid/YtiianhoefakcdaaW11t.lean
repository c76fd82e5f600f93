import Derived.Test.YtiianhoefakcdaaEngS9
import Derived.Test.YtiianhoefakcdaaW10t
open Go Go.Proofs Eng
set_option maxRecDepth 100000
set_option linter.unusedSimpArgs false
set_option linter.unusedVariables false

namespace Wa
theorem gTw_or {b d : Bx} {l : List Vo} {er ev : Int} {c : Co} (hg : gTw b d l er ev c) : (((((((¬ mvE b d = 0 ∨ ¬ coE c = 0) ∨ 16 < c.to) ∨ (l.length : Int) = 0) ∨ 16 < (l.length : Int)) ∨ ¬ (0 ≤ er ∧ er ≤ 20)) ∨ ¬ (1 ≤ ev ∧ ev ≤ 8)) = False) := by
  obtain ⟨u1, u2, u3, u4, u5, u6, u7⟩ := hg
  refine eq_false ?_
  simp only [u1, u2, not_true_eq_false, false_or]
  omega
theorem mvE_z {b d : Bx} (h : mvE b d = 0) : bxE b = 0 ∧ dfE d = 0 := by
  unfold mvE at h
  split at h
  · rename_i h0; exact ⟨h0, h⟩
  · rename_i h0; exact absurd h h0
theorem cp_ok {b d : Bx} {l : List Vo} (h1 : bxE b = 0) (h2 : dfE d = 0) (h3 : 0 < l.length) (h4 : l.length ≤ 1001) : cpV b d l = cpG b d l := by
  have h : cpE b d l = 0 := by
    refine firstE_all fun e he => ?_
    simp only [List.mem_cons, List.not_mem_nil, or_false] at he
    rcases he with rfl | rfl | rfl | rfl
    · exact h1
    · exact h2
    · exact unl_t _ (by omega)
    · exact unl_t _ (by omega)
  rw [cpV, if_pos h]
theorem tw_err (b d : Bx) (l : List Vo) (er ev : Int) (c : Co) (hg : gTw b d l er ev c) (j : Nat) (hj : j < l.length) (hc : cpG b d l = ((j : Int), 17)) : FOk P 3 [FL b l, eBx d, SE er ev c] (.bool true) := by
  have y1 := x_rMovesErr b d
  have y2 := x_rCorridorErr c
  have hq := gTw_or hg
  obtain ⟨u1, u2, u3, u4, u5, u6, u7⟩ := hg
  obtain ⟨b1, b2⟩ := mvE_z u1
  have y3 := x_CopyVortices l (by simp only [eq_iff_iff, iff_true]; omega)
  have y4 := x_CheckPath b d l (by simp only [eq_iff_iff, iff_true]; omega)
  rw [cp_ok b1 b2 u4 (by omega), hc] at y4
  have w1 : IntKind.wrap .i64 ((l.length : Int) - 1) = (l.length : Int) - 1 := wrap64 (by omega) (by omega)
  have q1 : ((j : Int) ≤ (l.length : Int) - 1) = True := by simp only [eq_iff_iff, iff_true]; omega
  refine c3.fok (by simp only [subs, sub1, free_Vo]) (Cor.run (addC_good g_CheckPath (addC_good g_CopyVortices (addC_good g_Within (addC_good g_rCorridorErr (addC_good g_rMovesErr (addC_good g_wakeShown (noC_good _))))))) (noHx_good _) hm ?_)
  simp +contextual -implicitDefEqProofs (maxSteps := 2000000) only [bg_eq, a3, x_wakeShown, y1, y2, y3, y4, x_Within, FL, SE, List.length_map, hq, free_Vo, w1, q1, ruB, rh_no, Int.reduceLT, Int.reduceLE, Int.reduceAdd, Int.reduceSub, Int.reduceMul, Int.reduceNeg, Int.reduceToNat, Int.reduceEq, Int.reduceNe, Int.reduceTDiv, Int.reduceTMod, implies_true, putL, appN, appX, appC, Eng.Fi, reduceCtorEq, exists_eq_left', exists_eq_left, if_true, if_false, List.replicate, Nat.reduceAdd, Nat.reduceSub, Nat.reduceMul, Nat.reduceLeDiff, Nat.reduceLT, Nat.reduceEqDiff]
/-- where the loop stands at tick t with the box bb -/
def Itw (b d : Bx) (l : List Vo) (ev : Int) (p : Int × Bx) : Prop := (0 ≤ p.1 ∧ p.1 ≤ 24) ∧ ((p.1 = 0 ∧ p.2 = b) ∨ (ev ≤ p.1 ∧ ∃ h : (p.1 - ev).toNat < l.length, bxE p.2 = 0 ∧ hoP p.2 l[(p.1 - ev).toNat] ∧ subP p.2 (afV b d (p.1 - ev))))
theorem baE_ok {b d : Bx} {t : Int} (h1 : bxE b = 0) (h2 : dfE d = 0) (h3 : tiR t) : baV b d t = .tup [eBx (afV b d t), I 0] := by
  have h : baE b d t = 0 := by
    refine firstE_all fun e he => ?_
    simp only [List.mem_cons, List.not_mem_nil, or_false] at he
    rcases he with rfl | rfl | rfl
    · exact h1
    · exact h2
    · exact unl_t _ h3
  rw [baV, if_pos h]
theorem Itw_now {b d : Bx} {l : List Vo} {ev : Int} {t : Int} {bb : Bx} (hb : bxE b = 0) (hd : dfE d = 0) (hv : 1 ≤ ev ∧ ev ≤ 8) (h0 : ∃ h : 0 < l.length, hoP b l[0]) (hs : ∀ k, ∀ h : k + 1 < l.length, stP d l[k] l[k + 1]) (hI : Itw b d l ev (t, bb)) (ht : t < l.length) :
    ∃ now, ((t = 0 ∧ now = bb) ∨ (0 < t ∧ now = afV bb d ev ∧ baV bb d ev = .tup [eBx now, I 0])) ∧ (∃ h : t.toNat < l.length, hoP now l[t.toNat]) ∧ subP now (afV b d t) := by
  obtain ⟨⟨h1, h2⟩, h3⟩ := hI
  simp only at h1 h2 h3
  rcases h3 with ⟨rfl, rfl⟩ | ⟨h3, hlt, h4, h5, h6⟩
  · obtain ⟨h0, h0'⟩ := h0
    refine ⟨bb, .inl ⟨rfl, rfl⟩, ⟨h0, h0'⟩, ?_⟩
    rw [af_zero (bxE_z hb).1]
    unfold subP
    omega
  · have hti : tiR ev := by unfold tiR; omega
    refine ⟨afV bb d ev, .inr ⟨by omega, rfl, baE_ok h4 hd hti⟩, ?_, ?_⟩
    · have e : (t - ev).toNat + ev.toNat = t.toNat := by omega
      have hp := ho_path (bxE_z h4).1 (dfE_z hd).1 hs hlt h5 ev.toNat (by omega)
      have e2 : ((ev.toNat : Nat) : Int) = ev := by omega
      rw [e2] at hp
      refine ⟨by omega, ?_⟩
      simpa only [e] using hp
    · have := sub_after (d := d) (k := ev) h6
      rw [af_add (dfE_z hd).1 (by omega)] at this
      have e : t - ev + ev = t := by omega
      rwa [e] at this
end Wa
