import Derived.Test.YtabkbhpeeefmgaaEngS9
import Derived.Test.YtabkbhpeeefmgaaW34
open Go Go.Proofs Eng
set_option maxRecDepth 100000
set_option linter.unusedSimpArgs false
set_option linter.unusedVariables false
def a64 : AC := .seq (.ops false [] [⟨some 3, .box 50 6 1 true, [.t 0], none⟩, ⟨some 4, .box 52 6 1 true, [.t 1], none⟩, ⟨some 5, .box 123 7 1 true, [.t 2], none⟩, ⟨some 6, .p (.mov), [.c (.int .i64 0)], none⟩]) (.seq (.seq (.ops false [] [⟨some 8, .load 6 true, [.t 3], none⟩, ⟨some 9, .load 6 true, [.t 4], none⟩, ⟨some 10, .call 68, [.t 8, .t 9], none⟩, ⟨some 7, .p (.mov), [.t 10], none⟩]) (.seq (.ops false [] [⟨some 11, .p (.mov), [.t 7], none⟩, ⟨some 12, .p (.binI .neq), [.t 11, .c (.int .i64 0)], none⟩]) (.cond (.t 12) (.seq (.ops false [] [⟨some 13, .p (.mov), [.t 7], none⟩, ⟨some 6, .p (.mov), [.t 13], none⟩]) (.ret)) (.skip)))) (.seq (.ops false [] [⟨some 14, .load 7 true, [.t 5], none⟩, ⟨some 15, .call 129, [.t 14], none⟩, ⟨some 6, .p (.mov), [.t 15], none⟩]) (.ret)))
theorem c64 : FnC Try.prog 64 16 a64 [.tmp 6] := ⟨Try.call64, _, _, Try.func64, rfl, by kernel_rfl, by kernel_rfl, rfl⟩
def a65 : AC := .seq (.ops false [] [⟨some 3, .box 50 6 1 true, [.t 0], none⟩, ⟨some 4, .box 52 6 1 true, [.t 1], none⟩, ⟨some 5, .box 123 7 1 true, [.t 2], none⟩, ⟨some 6, .p (.mov), [.c (.int .i64 0)], none⟩, ⟨some 7, .p (.mov), [.c (.bool false)], none⟩]) (.seq (.ops false [] [⟨some 8, .p (.mov), [.c (.int .i64 0)], none⟩, ⟨some 9, .p (.mov), [.c (.bool false)], none⟩]) (.seq (.ops false [] [⟨some 14, .load 6 true, [.t 3], none⟩, ⟨some 15, .load 6 true, [.t 4], none⟩, ⟨some 16, .p (.faddr 5), [.t 5], none⟩, ⟨some 17, .load 1 false, [.t 16], none⟩, ⟨some 18, .call 31, [.t 14, .t 15, .t 17], none⟩, ⟨some 10, .alloc 50 6 [.agg [.int .i64 0, .int .i64 0, .int .i64 0, .int .i64 0, .int .i64 0, .int .i64 0]], [], none⟩, ⟨none, .store 6 true, [.t 10, .t 18], none⟩]) (.seq (.seq (.ops false [] [⟨some 19, .p (.faddr 5), [.t 5], none⟩, ⟨some 20, .load 1 false, [.t 19], none⟩, ⟨some 11, .p (.mov), [.t 20], none⟩]) (.block 0 (.loop (.seq (.seq (.ops false [] [⟨some 21, .p (.mov), [.t 11], none⟩, ⟨some 22, .p (.faddr 6), [.t 5], none⟩, ⟨some 23, .load 1 false, [.t 22], none⟩, ⟨some 24, .p (.binI .leq), [.t 21, .t 23], none⟩]) (.cond (.t 24) (.skip) (.exit 0))) (.seq (.block 1 (.seq (.seq (.ops true [(0, 7), (1, 7), (2, 7), (3, 7)] [⟨some 28, .load 6 true, [.t 10], none⟩, ⟨some 29, .load 7 true, [.t 5], none⟩, ⟨some 30, .call 130, [.t 29], none⟩, ⟨some 31, .call 28, [.t 28, .t 30], none⟩, ⟨some 27, .p (.mov), [.t 31], none⟩, ⟨some 32, .p (.ext 0), [.t 27], none⟩, ⟨some 33, .p (.ext 1), [.t 27], none⟩, ⟨some 12, .alloc 50 6 [.agg [.int .i64 0, .int .i64 0, .int .i64 0, .int .i64 0, .int .i64 0, .int .i64 0]], [], none⟩, ⟨none, .store 6 true, [.t 12, .t 32], none⟩, ⟨some 13, .p (.mov), [.t 33], none⟩]) (.seq (.ops false [] [⟨some 34, .p (.mov), [.t 13], none⟩]) (.cond (.t 34) (.ops false [] [⟨some 9, .p (.mov), [.c (.bool false)], none⟩]) (.seq (.ops false [] [⟨some 35, .p (.mov), [.t 9], none⟩, ⟨some 36, .p (.notB), [.t 35], none⟩]) (.cond (.t 36) (.ops false [] [⟨some 37, .p (.mov), [.t 11], none⟩, ⟨some 8, .p (.mov), [.t 37], none⟩, ⟨some 9, .p (.mov), [.c (.bool true)], none⟩]) (.skip)))))) (.ops false [] [⟨some 38, .load 6 true, [.t 10], none⟩, ⟨some 39, .load 6 true, [.t 4], none⟩, ⟨some 40, .call 99, [.t 38, .t 39], none⟩, ⟨none, .store 6 true, [.t 10, .t 40], none⟩]))) (.ops false [] [⟨some 25, .p (.mov), [.t 11], none⟩, ⟨some 26, .p (.binI .add), [.t 25, .c (.int .i64 1)], none⟩, ⟨some 11, .p (.mov), [.t 26], none⟩])))))) (.seq (.seq (.ops false [] [⟨some 41, .p (.mov), [.t 9], none⟩, ⟨some 42, .p (.notB), [.t 41], none⟩]) (.cond (.t 42) (.seq (.ops false [] [⟨some 6, .p (.mov), [.c (.int .i64 0)], none⟩, ⟨some 7, .p (.mov), [.c (.bool false)], none⟩]) (.ret)) (.skip))) (.seq (.ops false [] [⟨some 43, .p (.mov), [.t 8], none⟩, ⟨some 6, .p (.mov), [.t 43], none⟩, ⟨some 7, .p (.mov), [.c (.bool true)], none⟩]) (.ret))))))
theorem c65 : FnC Try.prog 65 44 a65 [.tmp 6, .tmp 7] := ⟨Try.call65, _, _, Try.func65, rfl, by kernel_rfl, by kernel_rfl, rfl⟩
def a66 : AC := .seq (.ops false [] [⟨some 3, .box 50 6 1 true, [.t 0], none⟩, ⟨some 4, .box 52 6 1 true, [.t 1], none⟩, ⟨some 5, .box 123 7 1 true, [.t 2], none⟩, ⟨some 6, .p (.mov), [.c (.int .i64 0)], none⟩]) (.seq (.ops false [] [⟨some 7, .p (.mov), [.c (.int .i64 2)], none⟩]) (.seq (.ops false [] [⟨some 12, .load 6 true, [.t 3], none⟩, ⟨some 13, .load 6 true, [.t 4], none⟩, ⟨some 14, .p (.faddr 5), [.t 5], none⟩, ⟨some 15, .load 1 false, [.t 14], none⟩, ⟨some 16, .call 31, [.t 12, .t 13, .t 15], none⟩, ⟨some 8, .alloc 50 6 [.agg [.int .i64 0, .int .i64 0, .int .i64 0, .int .i64 0, .int .i64 0, .int .i64 0]], [], none⟩, ⟨none, .store 6 true, [.t 8, .t 16], none⟩]) (.seq (.seq (.ops false [] [⟨some 17, .p (.faddr 5), [.t 5], none⟩, ⟨some 18, .load 1 false, [.t 17], none⟩, ⟨some 9, .p (.mov), [.t 18], none⟩]) (.block 0 (.loop (.seq (.seq (.ops false [] [⟨some 19, .p (.mov), [.t 9], none⟩, ⟨some 20, .p (.faddr 6), [.t 5], none⟩, ⟨some 21, .load 1 false, [.t 20], none⟩, ⟨some 22, .p (.binI .leq), [.t 19, .t 21], none⟩]) (.cond (.t 22) (.skip) (.exit 0))) (.seq (.block 1 (.seq (.ops true [(0, 7), (1, 7), (2, 7), (3, 7)] [⟨some 26, .load 6 true, [.t 8], none⟩, ⟨some 27, .load 7 true, [.t 5], none⟩, ⟨some 28, .call 130, [.t 27], none⟩, ⟨some 29, .call 28, [.t 26, .t 28], none⟩, ⟨some 25, .p (.mov), [.t 29], none⟩, ⟨some 30, .p (.ext 0), [.t 25], none⟩, ⟨some 31, .p (.ext 1), [.t 25], none⟩, ⟨some 10, .alloc 50 6 [.agg [.int .i64 0, .int .i64 0, .int .i64 0, .int .i64 0, .int .i64 0, .int .i64 0]], [], none⟩, ⟨none, .store 6 true, [.t 10, .t 30], none⟩, ⟨some 11, .p (.mov), [.t 31], none⟩]) (.seq (.seq (.ops false [] [⟨some 32, .p (.mov), [.t 11], none⟩, ⟨some 33, .p (.mov), [.t 32], none⟩, ⟨some 34, .load 6 true, [.t 10], some (33, true)⟩, ⟨some 35, .load 6 true, [.t 8], some (33, true)⟩, ⟨some 36, .p (.eqa false [.i, .i, .i, .i, .i, .i]), [.t 34, .t 35], some (33, true)⟩, ⟨some 37, .p (.pick), [.t 33, .t 36, .c (.bool false)], none⟩]) (.cond (.t 37) (.seq (.ops false [] [⟨some 6, .p (.mov), [.c (.int .i64 0)], none⟩]) (.ret)) (.skip))) (.seq (.seq (.ops false [] [⟨some 38, .p (.mov), [.t 11], none⟩]) (.cond (.t 38) (.ops false [] [⟨some 7, .p (.mov), [.c (.int .i64 1)], none⟩]) (.skip))) (.ops false [] [⟨some 39, .load 6 true, [.t 8], none⟩, ⟨some 40, .load 6 true, [.t 4], none⟩, ⟨some 41, .call 99, [.t 39, .t 40], none⟩, ⟨none, .store 6 true, [.t 8, .t 41], none⟩]))))) (.ops false [] [⟨some 23, .p (.mov), [.t 9], none⟩, ⟨some 24, .p (.binI .add), [.t 23, .c (.int .i64 1)], none⟩, ⟨some 9, .p (.mov), [.t 24], none⟩])))))) (.seq (.ops false [] [⟨some 42, .p (.mov), [.t 7], none⟩, ⟨some 6, .p (.mov), [.t 42], none⟩]) (.ret)))))
theorem c66 : FnC Try.prog 66 43 a66 [.tmp 6] := ⟨Try.call66, _, _, Try.func66, rfl, by kernel_rfl, by kernel_rfl, rfl⟩
namespace Wa
def feE (b d : Bx) (c : Co) : Int := if mvE b d = 0 then coE c else mvE b d
theorem firstE_one (e : Int) : firstE [e] = e := by
  by_cases h : e = 0
  · rw [h]; rfl
  · exact fE1 h
theorem feE_oc (b d : Bx) (c : Co) : ocE b d c = feE b d c := by
  unfold feE ocE mvE
  by_cases h1 : bxE b = 0
  · rw [if_pos h1, h1, fE0]
    by_cases h2 : dfE d = 0
    · rw [if_pos h2, h2, fE0, firstE_one]
    · rw [if_neg h2, fE1 h2]
  · rw [if_neg h1, if_neg h1, fE1 h1]
theorem k_rFreeErr (b d : Bx) (c : Co) : FOk P 64 [eBx b, eBx d, eCo c] (I (feE b d c)) := by
  have y1 := x_rMovesErr b d
  have y2 := x_rCorridorErr c
  by_cases h : mvE b d = 0
  · have h' := eq_true h
    rw [feE, if_pos h]
    refine c64.fok rfl (Cor.run (addC_good g_rCorridorErr (addC_good g_rMovesErr (noC_good _))) (noHx_good _) hm ?_)
    simp +contextual -implicitDefEqProofs (maxSteps := 2000000) only [bg_eq, a64, y1, y2, h', not_true_eq_false, ruB, rh_no, Int.reduceLT, Int.reduceLE, Int.reduceAdd, Int.reduceSub, Int.reduceMul, Int.reduceNeg, Int.reduceToNat, Int.reduceEq, Int.reduceNe, Int.reduceTDiv, Int.reduceTMod, implies_true, putL, appN, appX, appC, Eng.Fi, reduceCtorEq, exists_eq_left', exists_eq_left, if_true, if_false, List.replicate, Nat.reduceAdd, Nat.reduceSub, Nat.reduceMul, Nat.reduceLeDiff, Nat.reduceLT, Nat.reduceEqDiff]
  · have h' := eq_false h
    rw [feE, if_neg h]
    refine c64.fok rfl (Cor.run (addC_good g_rCorridorErr (addC_good g_rMovesErr (noC_good _))) (noHx_good _) hm ?_)
    simp +contextual -implicitDefEqProofs (maxSteps := 2000000) only [bg_eq, a64, y1, y2, h', not_false_eq_true, ruB, rh_no, Int.reduceLT, Int.reduceLE, Int.reduceAdd, Int.reduceSub, Int.reduceMul, Int.reduceNeg, Int.reduceToNat, Int.reduceEq, Int.reduceNe, Int.reduceTDiv, Int.reduceTMod, implies_true, putL, appN, appX, appC, Eng.Fi, reduceCtorEq, exists_eq_left', exists_eq_left, if_true, if_false, List.replicate, Nat.reduceAdd, Nat.reduceSub, Nat.reduceMul, Nat.reduceLeDiff, Nat.reduceLT, Nat.reduceEqDiff]
def cf_rFreeErr : List AV → Option AV
  | [.agg [.int .i64 b_yl, .int .i64 b_yh, .int .i64 b_zl, .int .i64 b_zh, .int .i64 b_sl, .int .i64 b_sh], .agg [.int .i64 d_yl, .int .i64 d_yh, .int .i64 d_zl, .int .i64 d_zh, .int .i64 d_sl, .int .i64 d_sh], .agg [.int .i64 c_yl, .int .i64 c_yh, .int .i64 c_zl, .int .i64 c_zh, .int .i64 c_lim, .int .i64 c_fr, .int .i64 c_to]] => some (I (feE (⟨b_yl, b_yh, b_zl, b_zh, b_sl, b_sh⟩ : Bx) (⟨d_yl, d_yh, d_zl, d_zh, d_sl, d_sh⟩ : Bx) (⟨c_yl, c_yh, c_zl, c_zh, c_lim, c_fr, c_to⟩ : Co)))
  | _ => none
theorem g_rFreeErr : Fn P 64 cf_rFreeErr := fun args v hh => by
  unfold cf_rFreeErr at hh; split at hh
  · have hk := Option.some.inj hh; subst hk; exact k_rFreeErr ⟨_, _, _, _, _, _⟩ ⟨_, _, _, _, _, _⟩ ⟨_, _, _, _, _, _, _⟩
  · cases hh
theorem x_rFreeErr (b : Bx) (d : Bx) (c : Co) : cf_rFreeErr [.agg [I b.yl, I b.yh, I b.zl, I b.zh, I b.sl, I b.sh], .agg [I d.yl, I d.yh, I d.zl, I d.zh, I d.sl, I d.sh], .agg [I c.yl, I c.yh, I c.zl, I c.zh, I c.lim, I c.fr, I c.to]] = some (I (feE b d c)) := by
  rfl
def orP (b : Bx) : Prop := b.yl ≤ b.yh ∧ b.zl ≤ b.zh ∧ b.sl ≤ b.sh ∧ b.sh ≤ 1099511627776
theorem af_or {b d : Bx} (hb : bxE b = 0) (hd : dfE d = 0) {k : Int} (h0 : 0 ≤ k) (h1 : k ≤ 1001) : orP (afV b d k) := by
  obtain ⟨b1, b2, b3, b4⟩ := bxE_z hb
  obtain ⟨d1, d2, d3, d4⟩ := dfE_z hd
  unfold bxR inR at b1
  unfold dfR inR at d1
  have p1 := Int.mul_le_mul_of_nonneg_left d2 h0
  have p2 := Int.mul_le_mul_of_nonneg_left d3 h0
  have p3 := Int.mul_le_mul_of_nonneg_left d4 h0
  have p5 := mul_bd (a := k) (b := d.sl) (A := 1001) (B := 100) (by omega) (by omega)
  unfold orP afV
  simp only
  omega
theorem to_mn {n : Bx} {c : Co} (h : orP n) (hc : coR c) : mnP n (reG c) ↔ toP n c := by
  unfold orP at h
  unfold coR inR at hc
  unfold mnP meB reG toP
  simp only
  omega
theorem fi_me {n : Bx} {c : Co} (h : orP n) (hc : coR c) : (mnP n (reG c) ∧ meB n (reG c) = n) ↔ fiP n c := by
  unfold orP at h
  unfold coR inR at hc
  unfold mnP meB reG fiP inR
  cases n
  simp only [Bx.mk.injEq] at h ⊢
  omega
def S_rF (b d : Bx) (c : Co) (p : Int × Int) : AState := ⟨[.any, .any, .any, .any, .vp [eBx d] 0 0, .vp [eCo c] 0 0, .any, I p.2, .ptr 0 6 0 0, I p.1, .any, .any, .any, .any, .any, .any, .any, .any, .any, .any, .any, .any, .any, .any, .any, .any, .any, .any, .any, .any, .any, .any, .any, .any, .any, .any, .any, .any, .any, .any, .any, .any, .any], [⟨0, 0, .rows 50 6 [eBx (afV b d p.1)]⟩], 1⟩
theorem bx_ext {a b : Bx} (h : a.yl = b.yl ∧ a.yh = b.yh ∧ a.zl = b.zl ∧ a.zh = b.zh ∧ a.sl = b.sl ∧ a.sh = b.sh) : a = b := by
  cases a; cases b
  simp only [Bx.mk.injEq] at h ⊢
  exact h
theorem k_rFree (b d : Bx) (c : Co) (h0 : ocE b d c = 0) : FOk P 66 [eBx b, eBx d, eCo c] (I (iF b d c)) := by
  obtain ⟨hb, hd, hc, hle⟩ := ocE_z h0
  have z := firstE_zero h0
  have hbe : bxE b = 0 := z _ (by simp)
  have hde : dfE d = 0 := z _ (by simp)
  have hfr : tiR c.fr := hc.1.2
  have hto : tiR c.to := hc.2
  unfold tiR at hfr hto
  have y1 := x_rAfter b d c.fr (by simp only [eq_iff_iff, iff_true]; exact ⟨hb, hd, by unfold tiR; omega⟩)
  have y2 := x_rRegion c
  refine c66.fok rfl (Cor.run (addC_good g_rNext (addC_good g_rMeet (addC_good g_rRegion (addC_good g_rAfter (noC_good _))))) (noHx_good _) hm ?_)
  simp +contextual -implicitDefEqProofs (maxSteps := 2000000) only [bg_eq, a66, y1, ruB, rh_no, Int.reduceLT, Int.reduceLE, Int.reduceAdd, Int.reduceSub, Int.reduceMul, Int.reduceNeg, Int.reduceToNat, Int.reduceEq, Int.reduceNe, Int.reduceTDiv, Int.reduceTMod, implies_true, putL, appN, appX, appC, Eng.Fi, reduceCtorEq, exists_eq_left', exists_eq_left, if_true, if_false, List.replicate, Nat.reduceAdd, Nat.reduceSub, Nat.reduceMul, Nat.reduceLeDiff, Nat.reduceLT, Nat.reduceEqDiff]
  refine Cor.lp (addC_good g_rNext (addC_good g_rMeet (addC_good g_rRegion (addC_good g_rAfter (noC_good _))))) (noHx_good _) hm (S_rF b d c) (fun p => (c.fr ≤ p.1 ∧ p.1 ≤ c.to + 1) ∧ iF b d c = frG b d c (c.to + 1 - p.1).toNat p.1 p.2) (fun p => (c.to + 1 - p.1).toNat) (a := (c.fr, 2)) ⟨⟨Int.le_refl _, by simp only; omega⟩, rfl⟩ (Wkn.to ⟨0, [(3, 0)], [1, 2], 1, [4, 5, 7, 8, 9]⟩ rfl rfl (by simp [Wk.st, keepT, memN, Wk.fate, Wk.fate0, assoc, getE, Wk.hp, ABlk.sub, sub1, subs, S_rF])) ?_
  rintro f ⟨t, a⟩ ⟨⟨ht1, ht2⟩, hf⟩ go
  simp only at ht1 ht2 hf
  by_cases h : t ≤ c.to
  · have e1 : decide (t ≤ c.to) = true := decide_eq_true h
    have e3 : IntKind.wrap .i64 (t + 1) = t + 1 := wrap64 (by omega) (by omega)
    have en : (c.to + 1 - t).toNat = (c.to + 1 - (t + 1)).toNat + 1 := by omega
    have hor := af_or hbe hde (k := t) (by omega) (by omega)
    have hmn := to_mn hor hc
    have hfi := fi_me hor hc
    have ya := x_rMeet (afV b d t) (reG c)
    have yn := x_rNext (afV b d t) d (by simp only [af_bd hb hd (show 0 ≤ t by omega) (by omega)])
    rw [nx_af hd] at yn
    rw [en, frG] at hf
    have hst : S_rF b d c (t, a) = ⟨[.any, .any, .any, .any, .vp [eBx d] 0 0, .vp [eCo c] 0 0, .any, I a, .ptr 0 6 0 0, I t, .any, .any, .any, .any, .any, .any, .any, .any, .any, .any, .any, .any, .any, .any, .any, .any, .any, .any, .any, .any, .any, .any, .any, .any, .any, .any, .any, .any, .any, .any, .any, .any, .any], [⟨0, 0, .rows 50 6 [eBx (afV b d t)]⟩], 1⟩ := rfl
    have hs1 : S_rF b d c (t + 1, a) = ⟨[.any, .any, .any, .any, .vp [eBx d] 0 0, .vp [eCo c] 0 0, .any, I a, .ptr 0 6 0 0, I (t + 1), .any, .any, .any, .any, .any, .any, .any, .any, .any, .any, .any, .any, .any, .any, .any, .any, .any, .any, .any, .any, .any, .any, .any, .any, .any, .any, .any, .any, .any, .any, .any, .any, .any], [⟨0, 0, .rows 50 6 [eBx (afV b d (t + 1))]⟩], 1⟩ := rfl
    have hstep : S_rF b d c (t + 1, 1) = ⟨[.any, .any, .any, .any, .vp [eBx d] 0 0, .vp [eCo c] 0 0, .any, I 1, .ptr 0 6 0 0, I (t + 1), .any, .any, .any, .any, .any, .any, .any, .any, .any, .any, .any, .any, .any, .any, .any, .any, .any, .any, .any, .any, .any, .any, .any, .any, .any, .any, .any, .any, .any, .any, .any, .any, .any], [⟨0, 0, .rows 50 6 [eBx (afV b d (t + 1))]⟩], 1⟩ := rfl
    generalize afV b d (t + 1) = nxt at *
    generalize afV b d t = now at *
    rw [hst]
    by_cases c2 : toP now c
    · rw [mtV, if_pos (hmn.2 c2)] at ya
      rw [if_pos c2] at hf
      by_cases c1 : fiP now c
      · rw [if_pos c1] at hf
        rw [hf]
        rw [(hfi.2 c1).2] at ya
        simp +contextual -implicitDefEqProofs (maxSteps := 2000000) only [e1, e3, y2, ya, ruB, rh_no, Int.reduceLT, Int.reduceLE, Int.reduceAdd, Int.reduceSub, Int.reduceMul, Int.reduceNeg, Int.reduceToNat, Int.reduceEq, Int.reduceNe, Int.reduceTDiv, Int.reduceTMod, implies_true, putL, appN, appX, appC, Eng.Fi, reduceCtorEq, exists_eq_left', exists_eq_left, if_true, if_false, List.replicate, Nat.reduceAdd, Nat.reduceSub, Nat.reduceMul, Nat.reduceLeDiff, Nat.reduceLT, Nat.reduceEqDiff]
      · have hne : ¬ meB now (reG c) = now := fun e => c1 (hfi.1 ⟨hmn.2 c2, e⟩)
        rw [if_neg c1] at hf
        generalize meB now (reG c) = m at *
        have hq : (m.yl = now.yl ∧ m.yh = now.yh ∧ m.zl = now.zl ∧ m.zh = now.zh ∧ m.sl = now.sl ∧ m.sh = now.sh) = False := eq_false fun e => hne (bx_ext e)
        simp +contextual -implicitDefEqProofs (maxSteps := 2000000) only [e1, e3, y2, ya, yn, hq, ruB, rh_no, Int.reduceLT, Int.reduceLE, Int.reduceAdd, Int.reduceSub, Int.reduceMul, Int.reduceNeg, Int.reduceToNat, Int.reduceEq, Int.reduceNe, Int.reduceTDiv, Int.reduceTMod, implies_true, putL, appN, appX, appC, Eng.Fi, reduceCtorEq, exists_eq_left', exists_eq_left, if_true, if_false, List.replicate, Nat.reduceAdd, Nat.reduceSub, Nat.reduceMul, Nat.reduceLeDiff, Nat.reduceLT, Nat.reduceEqDiff]
        exact go _ (t + 1, 1) ⟨⟨by simp only; omega, by simp only; omega⟩, hf⟩ (by simp only; omega) (Wkn.to ⟨0, [(0, 0)], [], 1, [4, 5, 7, 8, 9]⟩ rfl rfl (by rw [hstep]; simp [Wk.st, keepT, memN, Wk.fate, Wk.fate0, assoc, getE, Wk.hp, ABlk.sub, sub1, subs]))
    · have c1 : ¬ fiP now c := fun c1 => c2 (hmn.1 (hfi.2 c1).1)
      rw [mtV, if_neg (fun q => c2 (hmn.1 q))] at ya
      rw [if_neg c1, if_neg c2] at hf
      simp +contextual -implicitDefEqProofs (maxSteps := 2000000) only [e1, e3, y2, ya, yn, ruB, rh_no, Int.reduceLT, Int.reduceLE, Int.reduceAdd, Int.reduceSub, Int.reduceMul, Int.reduceNeg, Int.reduceToNat, Int.reduceEq, Int.reduceNe, Int.reduceTDiv, Int.reduceTMod, implies_true, putL, appN, appX, appC, Eng.Fi, reduceCtorEq, exists_eq_left', exists_eq_left, if_true, if_false, List.replicate, Nat.reduceAdd, Nat.reduceSub, Nat.reduceMul, Nat.reduceLeDiff, Nat.reduceLT, Nat.reduceEqDiff]
      exact go _ (t + 1, a) ⟨⟨by simp only; omega, by simp only; omega⟩, hf⟩ (by simp only; omega) (Wkn.to ⟨0, [(0, 0)], [], 1, [4, 5, 7, 8, 9]⟩ rfl rfl (by rw [hs1]; simp [Wk.st, keepT, memN, Wk.fate, Wk.fate0, assoc, getE, Wk.hp, ABlk.sub, sub1, subs]))
  · have e1 : decide (t ≤ c.to) = false := decide_eq_false h
    have en : (c.to + 1 - t).toNat = 0 := by omega
    rw [en, frG] at hf
    rw [hf]
    simp +contextual -implicitDefEqProofs (maxSteps := 2000000) only [S_rF, e1, ruB, rh_no, Int.reduceLT, Int.reduceLE, Int.reduceAdd, Int.reduceSub, Int.reduceMul, Int.reduceNeg, Int.reduceToNat, Int.reduceEq, Int.reduceNe, Int.reduceTDiv, Int.reduceTMod, implies_true, putL, appN, appX, appC, Eng.Fi, reduceCtorEq, exists_eq_left', exists_eq_left, if_true, if_false, List.replicate, Nat.reduceAdd, Nat.reduceSub, Nat.reduceMul, Nat.reduceLeDiff, Nat.reduceLT, Nat.reduceEqDiff]
def cf_rFree : List AV → Option AV
  | [.agg [.int .i64 b_yl, .int .i64 b_yh, .int .i64 b_zl, .int .i64 b_zh, .int .i64 b_sl, .int .i64 b_sh], .agg [.int .i64 d_yl, .int .i64 d_yh, .int .i64 d_zl, .int .i64 d_zh, .int .i64 d_sl, .int .i64 d_sh], .agg [.int .i64 c_yl, .int .i64 c_yh, .int .i64 c_zl, .int .i64 c_zh, .int .i64 c_lim, .int .i64 c_fr, .int .i64 c_to]] => if ocE (⟨b_yl, b_yh, b_zl, b_zh, b_sl, b_sh⟩ : Bx) (⟨d_yl, d_yh, d_zl, d_zh, d_sl, d_sh⟩ : Bx) (⟨c_yl, c_yh, c_zl, c_zh, c_lim, c_fr, c_to⟩ : Co) = 0 then some (I (iF (⟨b_yl, b_yh, b_zl, b_zh, b_sl, b_sh⟩ : Bx) (⟨d_yl, d_yh, d_zl, d_zh, d_sl, d_sh⟩ : Bx) (⟨c_yl, c_yh, c_zl, c_zh, c_lim, c_fr, c_to⟩ : Co))) else none
  | _ => none
theorem g_rFree : Fn P 66 cf_rFree := fun args v hh => by
  unfold cf_rFree at hh; split at hh
  · split at hh
    · rename_i hc; have hk := Option.some.inj hh; subst hk; exact k_rFree ⟨_, _, _, _, _, _⟩ ⟨_, _, _, _, _, _⟩ ⟨_, _, _, _, _, _, _⟩ hc
    · cases hh
  · cases hh
theorem x_rFree (b : Bx) (d : Bx) (c : Co) (hc : (ocE b d c = 0) = True) : cf_rFree [.agg [I b.yl, I b.yh, I b.zl, I b.zh, I b.sl, I b.sh], .agg [I d.yl, I d.yh, I d.zl, I d.zh, I d.sl, I d.sh], .agg [I c.yl, I c.yh, I c.zl, I c.zh, I c.lim, I c.fr, I c.to]] = some (I (iF b d c)) := by
  exact if_pos (by rw [hc]; trivial)
def lsT (b d : Bx) (c : Co) (n : Nat) : Int := erG b d c n (c.fr + n - 1)
theorem lsT_s (b d : Bx) (c : Co) (n : Nat) : lsT b d c (n + 1) = if toP (afV b d (c.fr + n)) c then c.fr + n else lsT b d c n := by
  unfold lsT
  rw [erG]
  have e : c.fr + ((n + 1 : Nat) : Int) - 1 = c.fr + n := by omega
  rw [e]
theorem lsT_lt (b d : Bx) (c : Co) (n : Nat) : lsT b d c n ≤ c.fr + n - 1 := (erG_bd b d c n _).2
theorem lsT_all {b d : Bx} {c : Co} (h : c.fr ≤ c.to) : lsT b d c (c.to + 1 - c.fr).toNat = eR b d c := by
  unfold lsT eR
  congr 1
  omega
def eaV (b d : Bx) (c : Co) : AV := if eR b d c = c.to then .tup [I 0, .bool false] else .tup [I (eR b d c + 1), .bool true]
def S_rE (b d : Bx) (c : Co) (n : Nat) (now : Bx) (a : Int) (g : Bool) : AState := ⟨[.any, .any, .any, .any, .vp [eBx d] 0 0, .vp [eCo c] 0 0, .any, .any, I a, .bool g, .ptr 0 6 0 0, I (c.fr + n), .any, .any, .any, .any, .any, .any, .any, .any, .any, .any, .any, .any, .any, .any, .any, .any, .any, .any, .any, .any, .any, .any, .any, .any, .any, .any, .any, .any, .any, .any, .any, .any], [⟨0, 0, .rows 50 6 [eBx now]⟩], 1⟩
theorem k_rEarliest (b d : Bx) (c : Co) (h0 : ocE b d c = 0) : FOk P 65 [eBx b, eBx d, eCo c] (eaV b d c) := by
  obtain ⟨hb, hd, hc, hle⟩ := ocE_z h0
  have z := firstE_zero h0
  have hbe : bxE b = 0 := z _ (by simp)
  have hde : dfE d = 0 := z _ (by simp)
  have hfr : tiR c.fr := hc.1.2
  have hto : tiR c.to := hc.2
  unfold tiR at hfr hto
  have y1 := x_rAfter b d c.fr (by simp only [eq_iff_iff, iff_true]; exact ⟨hb, hd, by unfold tiR; omega⟩)
  have y2 := x_rRegion c
  refine c65.fok rfl (Cor.run (addC_good g_rNext (addC_good g_rMeet (addC_good g_rRegion (addC_good g_rAfter (noC_good _))))) (noHx_good _) hm ?_)
  simp +contextual -implicitDefEqProofs (maxSteps := 2000000) only [bg_eq, a65, y1, ruB, rh_no, Int.reduceLT, Int.reduceLE, Int.reduceAdd, Int.reduceSub, Int.reduceMul, Int.reduceNeg, Int.reduceToNat, Int.reduceEq, Int.reduceNe, Int.reduceTDiv, Int.reduceTMod, implies_true, putL, appN, appX, appC, Eng.Fi, reduceCtorEq, exists_eq_left', exists_eq_left, if_true, if_false, List.replicate, Nat.reduceAdd, Nat.reduceSub, Nat.reduceMul, Nat.reduceLeDiff, Nat.reduceLT, Nat.reduceEqDiff]
  refine Cor.lp (addC_good g_rNext (addC_good g_rMeet (addC_good g_rRegion (addC_good g_rAfter (noC_good _))))) (noHx_good _) hm (fun p : Nat × Int × Bool => S_rE b d c p.1 (afV b d (c.fr + p.1)) p.2.1 p.2.2) (fun p => c.fr + p.1 ≤ c.to + 1 ∧ (p.2.2 = true → p.2.1 = lsT b d c p.1 + 1) ∧ (p.2.2 = true ↔ ¬ lsT b d c p.1 = c.fr + p.1 - 1)) (fun p => (c.to + 1 - c.fr - p.1).toNat) (a := (0, 0, false)) ⟨by simp only; omega, by simp, by simp [lsT, erG]⟩ (Wkn.to ⟨0, [(3, 0)], [1, 2], 1, [4, 5, 8, 9, 10, 11]⟩ rfl rfl (by simp [Wk.st, keepT, memN, Wk.fate, Wk.fate0, assoc, getE, Wk.hp, ABlk.sub, sub1, subs, S_rE])) ?_
  rintro f ⟨n, a, g⟩ ⟨ht, ha, hg⟩ go
  simp only at ht ha hg go ⊢
  have hlt := lsT_lt b d c n
  by_cases h : c.fr + (n : Int) ≤ c.to
  · have e1 : (c.fr + (n : Int) ≤ c.to) = True := eq_true h
    have e3 : IntKind.wrap .i64 (c.fr + (n : Int) + 1) = c.fr + ((n + 1 : Nat) : Int) := by rw [wrap64 (by omega) (by omega)]; omega
    have hor := af_or hbe hde (k := c.fr + (n : Int)) (by omega) (by omega)
    have hmn := to_mn hor hc
    have ya := x_rMeet (afV b d (c.fr + (n : Int))) (reG c)
    have yn := x_rNext (afV b d (c.fr + (n : Int))) d (by simp only [af_bd hb hd (show 0 ≤ c.fr + (n : Int) by omega) (by omega)])
    rw [nx_af hd] at yn
    have e4 : c.fr + (n : Int) + 1 = c.fr + ((n + 1 : Nat) : Int) := by omega
    rw [e4] at yn
    have hls := lsT_s b d c n
    have go' := fun s' a' g' q1 q2 q3 hw => go s' (n + 1, a', g') ⟨q1, q2, q3⟩ (by simp only; omega) hw
    simp only at go'
    clear go
    generalize afV b d (c.fr + ((n + 1 : Nat) : Int)) = nxt at *
    generalize afV b d (c.fr + (n : Int)) = now at *
    by_cases c2 : toP now c
    · rw [mtV, if_pos (hmn.2 c2)] at ya
      rw [if_pos c2] at hls
      generalize meB now (reG c) = m at *
      simp +contextual -implicitDefEqProofs (maxSteps := 2000000) only [S_rE, e1, e3, y2, ya, yn, ruB, rh_no, Int.reduceLT, Int.reduceLE, Int.reduceAdd, Int.reduceSub, Int.reduceMul, Int.reduceNeg, Int.reduceToNat, Int.reduceEq, Int.reduceNe, Int.reduceTDiv, Int.reduceTMod, implies_true, putL, appN, appX, appC, Eng.Fi, reduceCtorEq, exists_eq_left', exists_eq_left, if_true, if_false, List.replicate, Nat.reduceAdd, Nat.reduceSub, Nat.reduceMul, Nat.reduceLeDiff, Nat.reduceLT, Nat.reduceEqDiff]
      exact go' _ a false (by omega) (by simp) (by rw [hls]; simp; omega) (Wkn.to ⟨0, [(0, 0)], [], 1, [4, 5, 8, 9, 10, 11]⟩ rfl rfl (by simp [Wk.st, keepT, memN, Wk.fate, Wk.fate0, assoc, getE, Wk.hp, ABlk.sub, sub1, subs, S_rE]))
    · rw [mtV, if_neg (fun q => c2 (hmn.1 q))] at ya
      rw [if_neg c2] at hls
      cases g with
      | true =>
        have ha := ha rfl
        simp +contextual -implicitDefEqProofs (maxSteps := 2000000) only [S_rE, e1, e3, y2, ya, yn, ruB, rh_no, Int.reduceLT, Int.reduceLE, Int.reduceAdd, Int.reduceSub, Int.reduceMul, Int.reduceNeg, Int.reduceToNat, Int.reduceEq, Int.reduceNe, Int.reduceTDiv, Int.reduceTMod, implies_true, putL, appN, appX, appC, Eng.Fi, reduceCtorEq, exists_eq_left', exists_eq_left, if_true, if_false, List.replicate, Nat.reduceAdd, Nat.reduceSub, Nat.reduceMul, Nat.reduceLeDiff, Nat.reduceLT, Nat.reduceEqDiff]
        exact go' _ a true (by omega) (by rw [hls]; exact fun _ => ha) (by rw [hls]; simp; omega) (Wkn.to ⟨0, [(0, 0)], [], 1, [4, 5, 8, 9, 10, 11]⟩ rfl rfl (by simp [Wk.st, keepT, memN, Wk.fate, Wk.fate0, assoc, getE, Wk.hp, ABlk.sub, sub1, subs, S_rE]))
      | false =>
        have hg : lsT b d c n = c.fr + n - 1 := by
          simp only [Bool.false_eq_true, false_iff, Classical.not_not] at hg
          exact hg
        simp +contextual -implicitDefEqProofs (maxSteps := 2000000) only [S_rE, e1, e3, y2, ya, yn, ruB, rh_no, Int.reduceLT, Int.reduceLE, Int.reduceAdd, Int.reduceSub, Int.reduceMul, Int.reduceNeg, Int.reduceToNat, Int.reduceEq, Int.reduceNe, Int.reduceTDiv, Int.reduceTMod, implies_true, putL, appN, appX, appC, Eng.Fi, reduceCtorEq, exists_eq_left', exists_eq_left, if_true, if_false, List.replicate, Nat.reduceAdd, Nat.reduceSub, Nat.reduceMul, Nat.reduceLeDiff, Nat.reduceLT, Nat.reduceEqDiff]
        exact go' _ (c.fr + n) true (by omega) (by rw [hls, hg]; intro _; omega) (by rw [hls, hg]; simp; omega) (Wkn.to ⟨0, [(0, 0)], [], 1, [4, 5, 8, 9, 10, 11]⟩ rfl rfl (by simp [Wk.st, keepT, memN, Wk.fate, Wk.fate0, assoc, getE, Wk.hp, ABlk.sub, sub1, subs, S_rE]))
  · have e1 : (c.fr + (n : Int) ≤ c.to) = False := eq_false h
    have en : n = (c.to + 1 - c.fr).toNat := by omega
    have hall := lsT_all (b := b) (d := d) hle
    rw [← en] at hall
    rw [hall] at ha hg
    unfold eaV
    cases g with
    | true =>
      have ha := ha rfl
      have hq : ¬ eR b d c = c.to := by
        have := hg.1 rfl
        omega
      rw [if_neg hq, ← ha]
      simp +contextual -implicitDefEqProofs (maxSteps := 2000000) only [S_rE, e1, ruB, rh_no, Int.reduceLT, Int.reduceLE, Int.reduceAdd, Int.reduceSub, Int.reduceMul, Int.reduceNeg, Int.reduceToNat, Int.reduceEq, Int.reduceNe, Int.reduceTDiv, Int.reduceTMod, implies_true, putL, appN, appX, appC, Eng.Fi, reduceCtorEq, exists_eq_left', exists_eq_left, if_true, if_false, List.replicate, Nat.reduceAdd, Nat.reduceSub, Nat.reduceMul, Nat.reduceLeDiff, Nat.reduceLT, Nat.reduceEqDiff]
    | false =>
      have hq : eR b d c = c.to := by
        simp only [Bool.false_eq_true, false_iff, Classical.not_not] at hg
        omega
      rw [if_pos hq]
      simp +contextual -implicitDefEqProofs (maxSteps := 2000000) only [S_rE, e1, ruB, rh_no, Int.reduceLT, Int.reduceLE, Int.reduceAdd, Int.reduceSub, Int.reduceMul, Int.reduceNeg, Int.reduceToNat, Int.reduceEq, Int.reduceNe, Int.reduceTDiv, Int.reduceTMod, implies_true, putL, appN, appX, appC, Eng.Fi, reduceCtorEq, exists_eq_left', exists_eq_left, if_true, if_false, List.replicate, Nat.reduceAdd, Nat.reduceSub, Nat.reduceMul, Nat.reduceLeDiff, Nat.reduceLT, Nat.reduceEqDiff]
def cf_rEarliest : List AV → Option AV
  | [.agg [.int .i64 b_yl, .int .i64 b_yh, .int .i64 b_zl, .int .i64 b_zh, .int .i64 b_sl, .int .i64 b_sh], .agg [.int .i64 d_yl, .int .i64 d_yh, .int .i64 d_zl, .int .i64 d_zh, .int .i64 d_sl, .int .i64 d_sh], .agg [.int .i64 c_yl, .int .i64 c_yh, .int .i64 c_zl, .int .i64 c_zh, .int .i64 c_lim, .int .i64 c_fr, .int .i64 c_to]] => if ocE (⟨b_yl, b_yh, b_zl, b_zh, b_sl, b_sh⟩ : Bx) (⟨d_yl, d_yh, d_zl, d_zh, d_sl, d_sh⟩ : Bx) (⟨c_yl, c_yh, c_zl, c_zh, c_lim, c_fr, c_to⟩ : Co) = 0 then some (eaV (⟨b_yl, b_yh, b_zl, b_zh, b_sl, b_sh⟩ : Bx) (⟨d_yl, d_yh, d_zl, d_zh, d_sl, d_sh⟩ : Bx) (⟨c_yl, c_yh, c_zl, c_zh, c_lim, c_fr, c_to⟩ : Co)) else none
  | _ => none
theorem g_rEarliest : Fn P 65 cf_rEarliest := fun args v hh => by
  unfold cf_rEarliest at hh; split at hh
  · split at hh
    · rename_i hc; have hk := Option.some.inj hh; subst hk; exact k_rEarliest ⟨_, _, _, _, _, _⟩ ⟨_, _, _, _, _, _⟩ ⟨_, _, _, _, _, _, _⟩ hc
    · cases hh
  · cases hh
theorem x_rEarliest (b : Bx) (d : Bx) (c : Co) (hc : (ocE b d c = 0) = True) : cf_rEarliest [.agg [I b.yl, I b.yh, I b.zl, I b.zh, I b.sl, I b.sh], .agg [I d.yl, I d.yh, I d.zl, I d.zh, I d.sl, I d.sh], .agg [I c.yl, I c.yh, I c.zl, I c.zh, I c.lim, I c.fr, I c.to]] = some (eaV b d c) := by
  exact if_pos (by rw [hc]; trivial)
end Wa
