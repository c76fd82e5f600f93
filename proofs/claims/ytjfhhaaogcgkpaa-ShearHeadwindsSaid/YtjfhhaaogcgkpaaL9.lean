import Derived.Test.YtjfhhaaogcgkpaaC22
import Derived.Test.YtjfhhaaogcgkpaaEngS8
open Go Go.Proofs Eng
set_option maxRecDepth 100000
set_option linter.unusedSimpArgs false
set_option linter.unusedVariables false
def a9 : AC := .seq (.ops false [] [⟨some 3, .box 100 3 1 true, [.t 0], none⟩, ⟨some 4, .box 102 4 1 true, [.t 1], none⟩, ⟨some 5, .box 61 1 2 true, [.t 2], none⟩, ⟨some 6, .p (.mov), [.c (.bool false)], none⟩]) (.seq (.seq (.ops false [] [⟨some 13, .call 14, [], none⟩, ⟨some 14, .p (.notB), [.t 13], none⟩]) (.cond (.t 14) (.seq (.ops false [] [⟨some 6, .p (.mov), [.c (.bool false)], none⟩]) (.ret)) (.skip))) (.seq (.ops false [] [⟨some 16, .load 3 true, [.t 3], none⟩, ⟨some 17, .load 4 true, [.t 4], none⟩, ⟨some 18, .call 53, [.t 16, .t 17], none⟩, ⟨some 15, .p (.mov), [.t 18], none⟩, ⟨some 19, .p (.ext 0), [.t 15], none⟩, ⟨some 20, .p (.ext 1), [.t 15], none⟩, ⟨some 7, .alloc 64 2 [.agg [.int .i64 0, .int .i64 0]], [], none⟩, ⟨none, .store 2 true, [.t 7, .t 19], none⟩, ⟨some 8, .p (.mov), [.t 20], none⟩]) (.seq (.ops false [] [⟨some 21, .load 3 true, [.t 3], none⟩, ⟨some 22, .call 54, [.t 21], none⟩, ⟨some 9, .p (.mov), [.t 22], none⟩]) (.seq (.seq (.ops false [] [⟨some 23, .load 3 true, [.t 3], none⟩, ⟨some 24, .call 55, [.t 23], none⟩, ⟨some 25, .p (.mov), [.t 9], none⟩, ⟨some 26, .p (.binI .neq), [.t 24, .t 25], none⟩]) (.cond (.t 26) (.seq (.ops false [] [⟨some 6, .p (.mov), [.c (.bool false)], none⟩]) (.ret)) (.skip))) (.seq (.seq (.ops false [] [⟨some 27, .p (.mov), [.t 9], none⟩, ⟨some 28, .p (.binI .eql), [.t 27, .c (.int .i64 0)], none⟩]) (.cond (.t 28) (.ops false [] [⟨some 29, .load 4 true, [.t 4], none⟩, ⟨some 30, .call 56, [.t 29], none⟩, ⟨some 9, .p (.mov), [.t 30], none⟩]) (.skip))) (.seq (.seq (.ops false [] [⟨some 31, .p (.mov), [.t 9], none⟩, ⟨some 32, .p (.binI .neq), [.t 31, .c (.int .i64 0)], none⟩]) (.cond (.t 32) (.seq (.ops false [] [⟨some 33, .p (.mov), [.t 8], none⟩, ⟨some 34, .p (.mov), [.t 9], none⟩, ⟨some 35, .p (.binI .eql), [.t 33, .t 34], none⟩, ⟨some 36, .p (.mov), [.t 35], none⟩, ⟨some 37, .load 2 true, [.t 7], some (36, true)⟩, ⟨some 38, .p (.build [.int .i64 0, .int .i64 0] []), [], some (36, true)⟩, ⟨some 39, .p (.eqa false [.i, .i]), [.t 37, .t 38], some (36, true)⟩, ⟨some 40, .p (.pick), [.t 36, .t 39, .c (.bool false)], none⟩, ⟨some 6, .p (.mov), [.t 40], none⟩]) (.ret)) (.skip))) (.seq (.ops true [] [⟨some 41, .p (.faddr 0), [.t 4], none⟩, ⟨some 42, .p (.faddr 0), [.t 41], none⟩, ⟨some 43, .load 1 false, [.t 42], none⟩, ⟨some 44, .p (.iaddrA 2 1), [.t 5, .c (.int .i64 0)], none⟩, ⟨some 45, .load 1 false, [.t 44], none⟩, ⟨some 46, .p (.faddr 0), [.t 4], none⟩, ⟨some 47, .p (.faddr 1), [.t 46], none⟩, ⟨some 48, .load 1 false, [.t 47], none⟩, ⟨some 49, .p (.faddr 0), [.t 4], none⟩, ⟨some 50, .p (.faddr 0), [.t 49], none⟩, ⟨some 51, .load 1 false, [.t 50], none⟩, ⟨some 52, .p (.binI .sub), [.t 48, .t 51], none⟩, ⟨some 53, .p (.binI .add), [.t 52, .c (.int .i64 1)], none⟩, ⟨some 54, .call 20, [.t 45, .t 53], none⟩, ⟨some 55, .p (.binI .add), [.t 43, .t 54], none⟩, ⟨some 10, .p (.mov), [.t 55], none⟩]) (.seq (.ops true [] [⟨some 56, .p (.faddr 2), [.t 4], none⟩, ⟨some 57, .p (.faddr 0), [.t 56], none⟩, ⟨some 58, .load 1 false, [.t 57], none⟩, ⟨some 59, .p (.iaddrA 2 1), [.t 5, .c (.int .i64 1)], none⟩, ⟨some 60, .load 1 false, [.t 59], none⟩, ⟨some 61, .p (.faddr 2), [.t 4], none⟩, ⟨some 62, .p (.faddr 1), [.t 61], none⟩, ⟨some 63, .load 1 false, [.t 62], none⟩, ⟨some 64, .p (.faddr 2), [.t 4], none⟩, ⟨some 65, .p (.faddr 0), [.t 64], none⟩, ⟨some 66, .load 1 false, [.t 65], none⟩, ⟨some 67, .p (.binI .sub), [.t 63, .t 66], none⟩, ⟨some 68, .p (.binI .add), [.t 67, .c (.int .i64 1)], none⟩, ⟨some 69, .call 20, [.t 60, .t 68], none⟩, ⟨some 70, .p (.binI .add), [.t 58, .t 69], none⟩, ⟨some 11, .p (.mov), [.t 70], none⟩]) (.seq (.ops false [] [⟨some 71, .p (.faddr 0), [.t 3], none⟩, ⟨some 72, .load 1 false, [.t 71], none⟩, ⟨some 73, .p (.mov), [.t 10], none⟩, ⟨some 74, .p (.binI .mul), [.t 72, .t 73], none⟩, ⟨some 75, .p (.faddr 1), [.t 3], none⟩, ⟨some 76, .load 1 false, [.t 75], none⟩, ⟨some 77, .p (.mov), [.t 11], none⟩, ⟨some 78, .p (.binI .mul), [.t 76, .t 77], none⟩, ⟨some 79, .p (.binI .add), [.t 74, .t 78], none⟩, ⟨some 80, .p (.neg), [.t 79], none⟩, ⟨some 12, .p (.mov), [.t 80], none⟩]) (.seq (.ops true [] [⟨some 81, .p (.mov), [.t 8], none⟩, ⟨some 82, .p (.binI .eql), [.t 81, .c (.int .i64 0)], none⟩, ⟨some 83, .p (.mov), [.t 82], none⟩, ⟨some 84, .load 2 true, [.t 7], some (83, true)⟩, ⟨some 85, .load 3 true, [.t 3], some (83, true)⟩, ⟨some 86, .load 4 true, [.t 4], some (83, true)⟩, ⟨some 87, .call 57, [.t 85, .t 86], some (83, true)⟩, ⟨some 88, .p (.eqa false [.i, .i]), [.t 84, .t 87], some (83, true)⟩, ⟨some 89, .p (.pick), [.t 83, .t 88, .c (.bool false)], none⟩, ⟨some 90, .p (.mov), [.t 89], none⟩, ⟨some 91, .p (.faddr 0), [.t 7], some (90, true)⟩, ⟨some 92, .load 1 false, [.t 91], some (90, true)⟩, ⟨some 93, .p (.faddr 2), [.t 3], some (90, true)⟩, ⟨some 94, .load 1 false, [.t 93], some (90, true)⟩, ⟨some 95, .p (.binI .mul), [.t 92, .t 94], some (90, true)⟩, ⟨some 96, .p (.mov), [.t 12], some (90, true)⟩, ⟨some 97, .p (.binI .leq), [.t 95, .t 96], some (90, true)⟩, ⟨some 98, .p (.pick), [.t 90, .t 97, .c (.bool false)], none⟩, ⟨some 99, .p (.mov), [.t 98], none⟩, ⟨some 100, .p (.mov), [.t 12], some (99, true)⟩, ⟨some 101, .p (.faddr 1), [.t 7], some (99, true)⟩, ⟨some 102, .load 1 false, [.t 101], some (99, true)⟩, ⟨some 103, .p (.faddr 2), [.t 3], some (99, true)⟩, ⟨some 104, .load 1 false, [.t 103], some (99, true)⟩, ⟨some 105, .p (.binI .mul), [.t 102, .t 104], some (99, true)⟩, ⟨some 106, .p (.binI .leq), [.t 100, .t 105], some (99, true)⟩, ⟨some 107, .p (.pick), [.t 99, .t 106, .c (.bool false)], none⟩, ⟨some 6, .p (.mov), [.t 107], none⟩]) (.ret)))))))))))
theorem c9 : FnC Try.prog 9 108 a9 [.tmp 6] := ⟨Try.call9, _, _, Try.func9, rfl, by kernel_rfl, by kernel_rfl, rfl⟩
namespace Sh

theorem four_min {L a b c d m : Int} (hL : 0 < L) (h1 : m ≤ a) (h2 : m ≤ b) (h3 : m ≤ c) (h4 : m ≤ d) (h : m = a ∨ m = b ∨ m = c ∨ m = d) : min (min (min (min (a / L) (a / L)) (b / L)) (c / L)) (d / L) = m / L := by
  have g1 := Int.ediv_le_ediv hL h1
  have g2 := Int.ediv_le_ediv hL h2
  have g3 := Int.ediv_le_ediv hL h3
  have g4 := Int.ediv_le_ediv hL h4
  rcases h with rfl | rfl | rfl | rfl <;> omega
theorem four_max {L a b c d m : Int} (hL : 0 < L) (h1 : a ≤ m) (h2 : b ≤ m) (h3 : c ≤ m) (h4 : d ≤ m) (h : m = a ∨ m = b ∨ m = c ∨ m = d) : max (max (max (max (-(-a / L)) (-(-a / L))) (-(-b / L))) (-(-c / L))) (-(-d / L)) = -(-m / L) := by
  have g1 := Int.ediv_le_ediv hL (show -m ≤ -a by omega)
  have g2 := Int.ediv_le_ediv hL (show -m ≤ -b by omega)
  have g3 := Int.ediv_le_ediv hL (show -m ≤ -c by omega)
  have g4 := Int.ediv_le_ediv hL (show -m ≤ -d by omega)
  rcases h with rfl | rfl | rfl | rfl <;> omega
theorem hwRV {l : Lg} {b : Bx} (hl : legR l) : hwR l b = hwV l b := by
  unfold hwR hwV wLo wHi nn
  unfold legR at hl
  generalize l.x * b.ul = p
  generalize l.x * b.uh = q
  generalize l.y * b.vl = r
  generalize l.y * b.vh = s
  rw [four_min (m := 0 - max p q - max r s) (by omega) (by omega) (by omega) (by omega) (by omega) (by omega)]
  rw [four_max (m := 0 - min p q - min r s) (by omega) (by omega) (by omega) (by omega) (by omega) (by omega)]
theorem mul_mid {k a b u : Int} (h1 : a ≤ u) (h2 : u ≤ b) : min (k * a) (k * b) ≤ k * u ∧ k * u ≤ max (k * a) (k * b) := by
  rcases Int.le_total 0 k with h | h
  · have g1 := Int.mul_le_mul_of_nonneg_left h1 h
    have g2 := Int.mul_le_mul_of_nonneg_left h2 h
    omega
  · have g1 := Int.mul_le_mul_of_nonpos_left h h1
    have g2 := Int.mul_le_mul_of_nonpos_left h h2
    omega

def c53f : List AV → Option AV
  | [.agg [.int .i64 a, .int .i64 b, .int .i64 c], .agg [.int .i64 d, .int .i64 e, .int .i64 f, .int .i64 g]] => some (if hwE ⟨a, b, c⟩ ⟨d, e, f, g⟩ = 0 then .tup [hwV ⟨a, b, c⟩ ⟨d, e, f, g⟩, I 0] else .tup [.agg [I 0, I 0], I (hwE ⟨a, b, c⟩ ⟨d, e, f, g⟩)])
  | _ => none
theorem g53 : Fn P 53 c53f := fun args v h => by
  unfold c53f at h; split at h
  · cases h; exact k53 ⟨_, _, _⟩ ⟨_, _, _, _⟩
  · cases h
theorem x53 (l : Lg) (b : Bx) : c53f [.agg [I l.x, I l.y, I l.len], .agg [I b.ul, I b.uh, I b.vl, I b.vh]] = some (if hwE l b = 0 then .tup [hwV l b, I 0] else .tup [.agg [I 0, I 0], I (hwE l b)]) := rfl
def c57f : List AV → Option AV
  | [.agg [.int .i64 a, .int .i64 b, .int .i64 c], .agg [.int .i64 d, .int .i64 e, .int .i64 f, .int .i64 g]] => if legR ⟨a, b, c⟩ ∧ bxR ⟨d, e, f, g⟩ then some (hwR ⟨a, b, c⟩ ⟨d, e, f, g⟩) else none
  | _ => none
theorem g57 : Fn P 57 c57f := fun args v h => by
  unfold c57f at h; split at h
  · split at h
    · rename_i hc; cases h; exact k57 ⟨_, _, _⟩ ⟨_, _, _, _⟩ hc.1 hc.2
    · cases h
  · cases h
theorem x57 (l : Lg) (b : Bx) (h : (legR l ∧ bxR b) = True) : c57f [.agg [I l.x, I l.y, I l.len], .agg [I b.ul, I b.uh, I b.vl, I b.vh]] = some (hwR l b) := by
  show (if legR l ∧ bxR b then _ else _) = _
  rw [if_pos (by rw [h]; trivial)]

theorem k9 (l : Lg) (b : Bx) (p q : Int) : FOk P 9 [eL l, eB b, .agg [I p, I q]] (.bool true) := by
  by_cases h0 : hwE l b = 0
  · obtain ⟨hl, hb, h1, h2⟩ := hw_ok h0
    have hl' := hl
    have hb' := hb
    unfold legR at hl'
    unfold bxR at hb'
    have hv := hwE_val l b
    rw [h0] at hv
    have hle : legE l = 0 := by
      by_cases h : legE l = 0
      · exact h
      · rw [if_neg h] at hv; exact hv.symm
    have hbe : bxE b = 0 := by rw [if_pos hle] at hv; exact hv.symm
    have y53 := x53 l b
    rw [if_pos h0] at y53
    have y57 := x57 l b (by simp only [eq_iff_iff, iff_true]; exact ⟨hl, hb⟩)
    rw [hwRV hl] at y57
    obtain ⟨m, hm1⟩ : ∃ m, m = b.uh - b.ul + 1 := ⟨_, rfl⟩
    obtain ⟨m', hm2⟩ : ∃ m, m = b.vh - b.vl + 1 := ⟨_, rfl⟩
    have w1 : IntKind.wrap .i64 (b.uh - b.ul) = b.uh - b.ul := wrap64 (by omega) (by omega)
    have w2 : IntKind.wrap .i64 (b.uh - b.ul + 1) = m := by rw [wrap64 (by omega) (by omega)]; exact hm1.symm
    have w3 : IntKind.wrap .i64 (b.vh - b.vl) = b.vh - b.vl := wrap64 (by omega) (by omega)
    have w4 : IntKind.wrap .i64 (b.vh - b.vl + 1) = m' := by rw [wrap64 (by omega) (by omega)]; exact hm2.symm
    have k1 : (0 < m ∧ m ≤ 1000000) = True := by simp only [eq_iff_iff, iff_true]; omega
    have k2 : (0 < m' ∧ m' ≤ 1000000) = True := by simp only [eq_iff_iff, iff_true]; omega
    have e1 := Int.emod_nonneg p (show m ≠ 0 by omega)
    have e2 := Int.emod_lt_of_pos p (show 0 < m by omega)
    have e3 := Int.emod_nonneg q (show m' ≠ 0 by omega)
    have e4 := Int.emod_lt_of_pos q (show 0 < m' by omega)
    generalize hu : p % m = pu at *
    generalize hv2 : q % m' = qv at *
    have w5 : IntKind.wrap .i64 (b.ul + pu) = b.ul + pu := wrap64 (by omega) (by omega)
    have w6 : IntKind.wrap .i64 (b.vl + qv) = b.vl + qv := wrap64 (by omega) (by omega)
    have b1 := mul_bd (a := l.x) (b := b.ul + pu) (A := 1000) (B := 10000) (by omega) (by omega)
    have b2 := mul_bd (a := l.y) (b := b.vl + qv) (A := 1000) (B := 10000) (by omega) (by omega)
    have c1 := mul_mid (k := l.x) (a := b.ul) (b := b.uh) (u := b.ul + pu) (by omega) (by omega)
    have c2 := mul_mid (k := l.y) (a := b.vl) (b := b.vh) (u := b.vl + qv) (by omega) (by omega)
    have hp := prods hl hb
    generalize hxu : l.x * (b.ul + pu) = xu at *
    generalize hyv : l.y * (b.vl + qv) = yv at *
    have w7 : IntKind.wrap .i64 xu = xu := wrap64 (by omega) (by omega)
    have w8 : IntKind.wrap .i64 yv = yv := wrap64 (by omega) (by omega)
    have w9 : IntKind.wrap .i64 (xu + yv) = xu + yv := wrap64 (by omega) (by omega)
    have w10 : IntKind.wrap .i64 (0 - (xu + yv)) = -(xu + yv) := by rw [wrap64 (by omega) (by omega)]; omega
    have r1 : (-20000000 ≤ wLo l b ∧ wLo l b ≤ 20000000) ∧ wLo l b ≤ -(xu + yv) := by unfold wLo; omega
    have r2 : (-20000000 ≤ wHi l b ∧ wHi l b ≤ 20000000) ∧ -(xu + yv) ≤ wHi l b := by unfold wHi; omega
    unfold hwV at y53 y57
    generalize wLo l b = lo at *
    generalize wHi l b = hi at *
    have f1 := Int.ediv_mul_le lo (show l.len ≠ 0 by omega)
    have f2 := Int.ediv_mul_le (-hi) (show l.len ≠ 0 by omega)
    have f3 := tdiv_bd lo (show 0 < l.len by omega) (B := 20000000) (by omega) (by omega)
    have f4 := tdiv_bd (-hi) (show 0 < l.len by omega) (B := 20000000) (by omega) (by omega)
    generalize lo / l.len = fl at *
    generalize -hi / l.len = fh at *
    have f5 := mul_bd (a := fl) (b := l.len) (A := 20000001) (B := 1000) (by omega) (by omega)
    have f6 := mul_bd (a := fh) (b := l.len) (A := 20000001) (B := 1000) (by omega) (by omega)
    have n6 : -fh * l.len = -(fh * l.len) := Int.neg_mul ..
    have w11 : IntKind.wrap .i64 (fl * l.len) = fl * l.len := wrap64 (by omega) (by omega)
    have w12 : IntKind.wrap .i64 (-fh * l.len) = -fh * l.len := by rw [n6]; exact wrap64 (by omega) (by omega)
    have g1 : (fl * l.len ≤ -(xu + yv)) = True := by simp only [eq_iff_iff, iff_true]; omega
    have g2 : (-(xu + yv) ≤ -fh * l.len) = True := by rw [n6]; simp only [eq_iff_iff, iff_true]; omega
    refine c9.fok rfl (Cor.run (addC_good g57 (addC_good g56 (addC_good g55 (addC_good g54 (addC_good g53 (addC_good g20 (addC_good g14 (noC_good _)))))))) (noHx_good _) hm ?_)
    simp +contextual -implicitDefEqProofs only [bg_eq, a9, x14, x54, x55, x56, x20, y53, y57, hle, hbe, w1, w2, w3, w4, k1, k2, hu, hv2, w5, w6, hxu, hyv, w7, w8, w9, w10, w11, w12, g1, g2, not_false_eq_true, not_true_eq_false, ne_eq, g_u, rd_ps, rl_nil, rl_cons, rlK_some, chkD_some, al_nil, al_cons, gF_0, gF_s, id_nn, id_sn, id_ns, id_ss, f_p, f_fbs, f_load, f_call, f_callv, t_callv, f_alloc, f_boxF, f_bsl, f_store, f_app, wS_set, wA_no, wA_new, wA_ext, gi_nil, gi_cons, cG_some, cG_none, tl_nil, tl_ptr, tl_slice, tl_int, tl_bool, tl_str, tl_agg, tl_tup, tl_vs, tl_vp, tl_fn, tl_nils, d_and, d_or, d_not, d_nn, pk_and, pk_or, pk_orn, Decidable.not_not, Int.reduceLT, Int.reduceLE, Int.reduceAdd, Int.reduceSub, Int.reduceMul, Int.reduceNeg, Int.reduceToNat, Int.reduceEq, Int.reduceNe, Int.reduceTDiv, Int.reduceTMod, rd_w, wr_w, ro_one, fl_nil, fl_cons, wrapL, Rd_s, implies_true, Int.toNat_natCast, Int.natCast_nonneg, W_skip, W_ops, W_opsD, W_seq, W_cond, W_block, W_exit, W_ret, W_loop, W_rf, RN_some, R_nil, R_nth, R_nbl, R_npr, R_rth, R_rbl, R_rpr, R_eth, R_epr, R_ebl, R_ebn, CV_t, CV_f, CV_d, rh_no, r_nil, r_cons, rd_nil, s_p, s_load1, s_call1, s_callv1, s_fbs1, s_alloc1, s_boxF1, s_boxT1, s_bsl1, s_store1, s_app1, boxF_sc, boxT_1, boxT_1n, valOp_callv, fbs_ok, bsl_ok, putT_s, putT_n, putS_set, putA_eq, ap_no, ap_new, ap_set, ap_ext, q_p, q_load, q_call, q_callv, q_fbs, gP_eq, gL_eq, gC_eq, gV_eq, gF_eq, gE_t, gE_f, gE_nt, gE_nf, g_t, g_f, gbool_opt, gif_true, gif_false, gif_some, obind_some, e_mov, e_pick, e_add, e_sub, e_mul, e_quo, e_rem, e_eql, e_neq, e_lss, e_leq, e_gtr, e_geq, e_eqB, e_neB, e_eqN, e_neN, e_eqa, e_nea, e_neg, e_not, e_conv, e_build, e_mkfn, e_faddr, e_faddrV, e_field, e_iaddrS, e_iaddrA, e_idxA, e_ext, e_lenT, e_lenS, e_lenV, e_lenN, e_lenC, e_min, e_max, e_nilP, e_nilV, e_nilF, e_nilY, ia_slice, ia_vs, ia_arr, ia_arrV, sg_t, sg_f, eq_nil, eq_i, eq_b, eq_s, bf_nil, bf_cons, putL, cells_int, cells_bool, cells_str, cells_agg, cells_slice, cells_vs, cells_nil, cells_ptr, cells_fn, sc_int, sc_bool, sc_str, sc_agg, sc_slice, sc_vs, sc_nil, sc_ptr, sc_fn, ag_agg, ag_int, ag_bool, gt_0, gt_s, st_0, st_s, ev_t, ev_c, evs_nil, evs_cons, ge_eq, ge_ne, ge_nil, sb_nil, sb_eq, sb_ne, sb_gone, dg_nil, dg_eq, dg_ne, dg_gone, ld_ptr, ld_vp, ldE_some, rd_f, rdC_some, rd_t, rdA_all, rdA_part, rdV_eq, rdW_f, rdW_all, rdW_part, sto_ptr, stE_some, wr_f, wr_t, wrA_all, wrA_part, wrC_agg, wrC_0, callV_eq, callK_some, callR_pure, callR_flat, pu_nil, pu_cons, consO_some, p_int, p_bool, p_str, p_agg, p_vs, p_fn, p_nil, p_ptr, p_vp, p_slice, purE_some, pR_tup, pR_int, pR_bool, pR_agg, pR_vs, pR_nil, pR_str, pR_slice, pR_fn, sl_int, sl_bool, sl_str, sl_agg, sl_vs, sl_fn, sl_nil, sl_ptr, sl_vp, sl_slice, n_int, n_bool, n_str, n_agg, n_vs, n_tup, n_nil, n_cons, n_nils, app_nil, app_sl, appE_some, appN, appX, src_vs, src_nil, src_sl, srcE_some, pickV_ct, pickV_cf, optv_true, optv_false, res_eq, rvs_nil, rvs_cons, rv_t, rv_c, ro_1, ro_0, ro_2, Eng.Fi, addC_eq, addC_ne, decI_I, decL_nil, decL_cons, consL_some, kF_nil, kF_t, kF_f, kT_nil, kT_t, kT_f, mN_nil, mN_eq, mN_ne,  Option.map_some, Option.bind_some, reduceCtorEq, Option.some.injEq, exists_eq_left', exists_eq_left, and_self, and_true, true_and, false_and, and_false, or_true, true_or, if_true, if_false, Bool.false_eq_true, List.length_cons, List.length_nil, List.length_append, List.replicate, List.cons_append, List.nil_append, List.append_nil, Nat.reduceAdd, Nat.reduceSub, Nat.reduceMul, Nat.reduceLeDiff, Nat.reduceLT, Nat.reduceEqDiff, Nat.zero_add, Nat.add_zero, List.getElem?_cons_zero, List.getElem?_cons_succ, List.set_cons_zero, List.set_cons_succ, List.take_succ_cons, List.take_zero, List.take_nil, List.drop_succ_cons, List.drop_zero, List.drop_nil, List.all_cons, List.all_nil, List.any_cons, List.any_nil, decide_true, decide_false, Bool.and_true, Bool.true_and, Bool.and_false, Bool.false_and, Bool.or_false, Bool.false_or, Bool.or_true, Bool.or_self, Bool.and_self, Bool.not_true, Bool.not_false]
  · have y53 := x53 l b
    rw [if_neg h0] at y53
    have hv := hwE_val l b
    by_cases hle : legE l = 0
    · rw [if_pos hle] at hv
      rw [hv] at h0 y53
      refine c9.fok rfl (Cor.run (addC_good g57 (addC_good g56 (addC_good g55 (addC_good g54 (addC_good g53 (addC_good g20 (addC_good g14 (noC_good _)))))))) (noHx_good _) hm ?_)
      simp +contextual -implicitDefEqProofs only [bg_eq, a9, x14, x54, x55, x56, y53, hle, h0, not_false_eq_true, not_true_eq_false, ne_eq, g_u, rd_ps, rl_nil, rl_cons, rlK_some, chkD_some, al_nil, al_cons, gF_0, gF_s, id_nn, id_sn, id_ns, id_ss, f_p, f_fbs, f_load, f_call, f_callv, t_callv, f_alloc, f_boxF, f_bsl, f_store, f_app, wS_set, wA_no, wA_new, wA_ext, gi_nil, gi_cons, cG_some, cG_none, tl_nil, tl_ptr, tl_slice, tl_int, tl_bool, tl_str, tl_agg, tl_tup, tl_vs, tl_vp, tl_fn, tl_nils, d_and, d_or, d_not, d_nn, pk_and, pk_or, pk_orn, Decidable.not_not, Int.reduceLT, Int.reduceLE, Int.reduceAdd, Int.reduceSub, Int.reduceMul, Int.reduceNeg, Int.reduceToNat, Int.reduceEq, Int.reduceNe, Int.reduceTDiv, Int.reduceTMod, rd_w, wr_w, ro_one, fl_nil, fl_cons, wrapL, Rd_s, implies_true, Int.toNat_natCast, Int.natCast_nonneg, W_skip, W_ops, W_opsD, W_seq, W_cond, W_block, W_exit, W_ret, W_loop, W_rf, RN_some, R_nil, R_nth, R_nbl, R_npr, R_rth, R_rbl, R_rpr, R_eth, R_epr, R_ebl, R_ebn, CV_t, CV_f, CV_d, rh_no, r_nil, r_cons, rd_nil, s_p, s_load1, s_call1, s_callv1, s_fbs1, s_alloc1, s_boxF1, s_boxT1, s_bsl1, s_store1, s_app1, boxF_sc, boxT_1, boxT_1n, valOp_callv, fbs_ok, bsl_ok, putT_s, putT_n, putS_set, putA_eq, ap_no, ap_new, ap_set, ap_ext, q_p, q_load, q_call, q_callv, q_fbs, gP_eq, gL_eq, gC_eq, gV_eq, gF_eq, gE_t, gE_f, gE_nt, gE_nf, g_t, g_f, gbool_opt, gif_true, gif_false, gif_some, obind_some, e_mov, e_pick, e_add, e_sub, e_mul, e_quo, e_rem, e_eql, e_neq, e_lss, e_leq, e_gtr, e_geq, e_eqB, e_neB, e_eqN, e_neN, e_eqa, e_nea, e_neg, e_not, e_conv, e_build, e_mkfn, e_faddr, e_faddrV, e_field, e_iaddrS, e_iaddrA, e_idxA, e_ext, e_lenT, e_lenS, e_lenV, e_lenN, e_lenC, e_min, e_max, e_nilP, e_nilV, e_nilF, e_nilY, ia_slice, ia_vs, ia_arr, ia_arrV, sg_t, sg_f, eq_nil, eq_i, eq_b, eq_s, bf_nil, bf_cons, putL, cells_int, cells_bool, cells_str, cells_agg, cells_slice, cells_vs, cells_nil, cells_ptr, cells_fn, sc_int, sc_bool, sc_str, sc_agg, sc_slice, sc_vs, sc_nil, sc_ptr, sc_fn, ag_agg, ag_int, ag_bool, gt_0, gt_s, st_0, st_s, ev_t, ev_c, evs_nil, evs_cons, ge_eq, ge_ne, ge_nil, sb_nil, sb_eq, sb_ne, sb_gone, dg_nil, dg_eq, dg_ne, dg_gone, ld_ptr, ld_vp, ldE_some, rd_f, rdC_some, rd_t, rdA_all, rdA_part, rdV_eq, rdW_f, rdW_all, rdW_part, sto_ptr, stE_some, wr_f, wr_t, wrA_all, wrA_part, wrC_agg, wrC_0, callV_eq, callK_some, callR_pure, callR_flat, pu_nil, pu_cons, consO_some, p_int, p_bool, p_str, p_agg, p_vs, p_fn, p_nil, p_ptr, p_vp, p_slice, purE_some, pR_tup, pR_int, pR_bool, pR_agg, pR_vs, pR_nil, pR_str, pR_slice, pR_fn, sl_int, sl_bool, sl_str, sl_agg, sl_vs, sl_fn, sl_nil, sl_ptr, sl_vp, sl_slice, n_int, n_bool, n_str, n_agg, n_vs, n_tup, n_nil, n_cons, n_nils, app_nil, app_sl, appE_some, appN, appX, src_vs, src_nil, src_sl, srcE_some, pickV_ct, pickV_cf, optv_true, optv_false, res_eq, rvs_nil, rvs_cons, rv_t, rv_c, ro_1, ro_0, ro_2, Eng.Fi, addC_eq, addC_ne, decI_I, decL_nil, decL_cons, consL_some, kF_nil, kF_t, kF_f, kT_nil, kT_t, kT_f, mN_nil, mN_eq, mN_ne,  Option.map_some, Option.bind_some, reduceCtorEq, Option.some.injEq, exists_eq_left', exists_eq_left, and_self, and_true, true_and, false_and, and_false, or_true, true_or, if_true, if_false, Bool.false_eq_true, List.length_cons, List.length_nil, List.length_append, List.replicate, List.cons_append, List.nil_append, List.append_nil, Nat.reduceAdd, Nat.reduceSub, Nat.reduceMul, Nat.reduceLeDiff, Nat.reduceLT, Nat.reduceEqDiff, Nat.zero_add, Nat.add_zero, List.getElem?_cons_zero, List.getElem?_cons_succ, List.set_cons_zero, List.set_cons_succ, List.take_succ_cons, List.take_zero, List.take_nil, List.drop_succ_cons, List.drop_zero, List.drop_nil, List.all_cons, List.all_nil, List.any_cons, List.any_nil, decide_true, decide_false, Bool.and_true, Bool.true_and, Bool.and_false, Bool.false_and, Bool.or_false, Bool.false_or, Bool.or_true, Bool.or_self, Bool.and_self, Bool.not_true, Bool.not_false]
    · rw [if_neg hle] at hv
      rw [hv] at h0 y53
      refine c9.fok rfl (Cor.run (addC_good g57 (addC_good g56 (addC_good g55 (addC_good g54 (addC_good g53 (addC_good g20 (addC_good g14 (noC_good _)))))))) (noHx_good _) hm ?_)
      simp +contextual -implicitDefEqProofs only [bg_eq, a9, x14, x54, x55, x56, y53, hle, not_false_eq_true, not_true_eq_false, ne_eq, g_u, rd_ps, rl_nil, rl_cons, rlK_some, chkD_some, al_nil, al_cons, gF_0, gF_s, id_nn, id_sn, id_ns, id_ss, f_p, f_fbs, f_load, f_call, f_callv, t_callv, f_alloc, f_boxF, f_bsl, f_store, f_app, wS_set, wA_no, wA_new, wA_ext, gi_nil, gi_cons, cG_some, cG_none, tl_nil, tl_ptr, tl_slice, tl_int, tl_bool, tl_str, tl_agg, tl_tup, tl_vs, tl_vp, tl_fn, tl_nils, d_and, d_or, d_not, d_nn, pk_and, pk_or, pk_orn, Decidable.not_not, Int.reduceLT, Int.reduceLE, Int.reduceAdd, Int.reduceSub, Int.reduceMul, Int.reduceNeg, Int.reduceToNat, Int.reduceEq, Int.reduceNe, Int.reduceTDiv, Int.reduceTMod, rd_w, wr_w, ro_one, fl_nil, fl_cons, wrapL, Rd_s, implies_true, Int.toNat_natCast, Int.natCast_nonneg, W_skip, W_ops, W_opsD, W_seq, W_cond, W_block, W_exit, W_ret, W_loop, W_rf, RN_some, R_nil, R_nth, R_nbl, R_npr, R_rth, R_rbl, R_rpr, R_eth, R_epr, R_ebl, R_ebn, CV_t, CV_f, CV_d, rh_no, r_nil, r_cons, rd_nil, s_p, s_load1, s_call1, s_callv1, s_fbs1, s_alloc1, s_boxF1, s_boxT1, s_bsl1, s_store1, s_app1, boxF_sc, boxT_1, boxT_1n, valOp_callv, fbs_ok, bsl_ok, putT_s, putT_n, putS_set, putA_eq, ap_no, ap_new, ap_set, ap_ext, q_p, q_load, q_call, q_callv, q_fbs, gP_eq, gL_eq, gC_eq, gV_eq, gF_eq, gE_t, gE_f, gE_nt, gE_nf, g_t, g_f, gbool_opt, gif_true, gif_false, gif_some, obind_some, e_mov, e_pick, e_add, e_sub, e_mul, e_quo, e_rem, e_eql, e_neq, e_lss, e_leq, e_gtr, e_geq, e_eqB, e_neB, e_eqN, e_neN, e_eqa, e_nea, e_neg, e_not, e_conv, e_build, e_mkfn, e_faddr, e_faddrV, e_field, e_iaddrS, e_iaddrA, e_idxA, e_ext, e_lenT, e_lenS, e_lenV, e_lenN, e_lenC, e_min, e_max, e_nilP, e_nilV, e_nilF, e_nilY, ia_slice, ia_vs, ia_arr, ia_arrV, sg_t, sg_f, eq_nil, eq_i, eq_b, eq_s, bf_nil, bf_cons, putL, cells_int, cells_bool, cells_str, cells_agg, cells_slice, cells_vs, cells_nil, cells_ptr, cells_fn, sc_int, sc_bool, sc_str, sc_agg, sc_slice, sc_vs, sc_nil, sc_ptr, sc_fn, ag_agg, ag_int, ag_bool, gt_0, gt_s, st_0, st_s, ev_t, ev_c, evs_nil, evs_cons, ge_eq, ge_ne, ge_nil, sb_nil, sb_eq, sb_ne, sb_gone, dg_nil, dg_eq, dg_ne, dg_gone, ld_ptr, ld_vp, ldE_some, rd_f, rdC_some, rd_t, rdA_all, rdA_part, rdV_eq, rdW_f, rdW_all, rdW_part, sto_ptr, stE_some, wr_f, wr_t, wrA_all, wrA_part, wrC_agg, wrC_0, callV_eq, callK_some, callR_pure, callR_flat, pu_nil, pu_cons, consO_some, p_int, p_bool, p_str, p_agg, p_vs, p_fn, p_nil, p_ptr, p_vp, p_slice, purE_some, pR_tup, pR_int, pR_bool, pR_agg, pR_vs, pR_nil, pR_str, pR_slice, pR_fn, sl_int, sl_bool, sl_str, sl_agg, sl_vs, sl_fn, sl_nil, sl_ptr, sl_vp, sl_slice, n_int, n_bool, n_str, n_agg, n_vs, n_tup, n_nil, n_cons, n_nils, app_nil, app_sl, appE_some, appN, appX, src_vs, src_nil, src_sl, srcE_some, pickV_ct, pickV_cf, optv_true, optv_false, res_eq, rvs_nil, rvs_cons, rv_t, rv_c, ro_1, ro_0, ro_2, Eng.Fi, addC_eq, addC_ne, decI_I, decL_nil, decL_cons, consL_some, kF_nil, kF_t, kF_f, kT_nil, kT_t, kT_f, mN_nil, mN_eq, mN_ne,  Option.map_some, Option.bind_some, reduceCtorEq, Option.some.injEq, exists_eq_left', exists_eq_left, and_self, and_true, true_and, false_and, and_false, or_true, true_or, if_true, if_false, Bool.false_eq_true, List.length_cons, List.length_nil, List.length_append, List.replicate, List.cons_append, List.nil_append, List.append_nil, Nat.reduceAdd, Nat.reduceSub, Nat.reduceMul, Nat.reduceLeDiff, Nat.reduceLT, Nat.reduceEqDiff, Nat.zero_add, Nat.add_zero, List.getElem?_cons_zero, List.getElem?_cons_succ, List.set_cons_zero, List.set_cons_succ, List.take_succ_cons, List.take_zero, List.take_nil, List.drop_succ_cons, List.drop_zero, List.drop_nil, List.all_cons, List.all_nil, List.any_cons, List.any_nil, decide_true, decide_false, Bool.and_true, Bool.true_and, Bool.and_false, Bool.false_and, Bool.or_false, Bool.false_or, Bool.or_true, Bool.or_self, Bool.and_self, Bool.not_true, Bool.not_false]
theorem law9 (u0 u1 u2 : AV) (a0 : ArV (.agg [.i, .i, .i]) u0) (a1 : ArV (.agg [.i, .i, .i, .i]) u1) (a2 : ArV (.agg [.i, .i]) u2) : FOk P 9 [u0, u1, u2] (.bool true) := by
  obtain ⟨us, rfl, h⟩ := a0
  obtain ⟨vs, rfl, h1⟩ := a1
  obtain ⟨ws, rfl, h2⟩ := a2
  obtain ⟨_, _, rfl, ⟨a, rfl, _⟩, _, _, rfl, ⟨b, rfl, _⟩, _, _, rfl, ⟨c, rfl, _⟩, rfl⟩ := h
  obtain ⟨_, _, rfl, ⟨d, rfl, _⟩, _, _, rfl, ⟨e, rfl, _⟩, _, _, rfl, ⟨f, rfl, _⟩, _, _, rfl, ⟨g, rfl, _⟩, rfl⟩ := h1
  obtain ⟨_, _, rfl, ⟨i, rfl, _⟩, _, _, rfl, ⟨j, rfl, _⟩, rfl⟩ := h2
  exact k9 ⟨a, b, c⟩ ⟨d, e, f, g⟩ i j
end Sh
