import Derived.Test.YtjfhhaaogcgkpaaC12
import Derived.Test.YtjfhhaaogcgkpaaEngS8
open Go Go.Proofs Eng
set_option maxRecDepth 100000
set_option linter.unusedSimpArgs false
set_option linter.unusedVariables false
/-- glidepath/glidepathlaw05.ShearTampered -/
def a4 : AC := .seq (.ops false [] [⟨some 2, .box 23 4 1 true, [.t 0], none⟩, ⟨some 3, .box 36 1 3 true, [.t 1], none⟩, ⟨some 4, .p (.mov), [.c (.bool false)], none⟩]) (.seq (.seq (.ops false [] [⟨some 17, .call 14, [], none⟩, ⟨some 18, .p (.notB), [.t 17], none⟩]) (.cond (.t 18) (.seq (.ops false [] [⟨some 4, .p (.mov), [.c (.bool false)], none⟩]) (.ret)) (.skip))) (.seq (.seq (.ops false [] [⟨some 19, .load 4 true, [.t 2], none⟩, ⟨some 20, .call 17, [.t 19], none⟩, ⟨some 21, .p (.binI .neq), [.t 20, .c (.int .i64 0)], none⟩]) (.cond (.t 21) (.seq (.ops false [] [⟨some 4, .p (.mov), [.c (.bool true)], none⟩]) (.ret)) (.skip))) (.seq (.ops false [] [⟨some 23, .load 4 true, [.t 2], none⟩, ⟨some 24, .call 15, [.t 23], none⟩, ⟨some 22, .p (.mov), [.t 24], none⟩, ⟨some 25, .p (.ext 0), [.t 22], none⟩, ⟨some 26, .p (.ext 1), [.t 22], none⟩, ⟨some 5, .alloc 24 1 [.int .i64 0, .int .i64 0, .int .i64 0, .int .i64 0, .int .i64 0, .int .i64 0, .int .i64 0], [], none⟩, ⟨none, .store 7 true, [.t 5, .t 25], none⟩, ⟨some 6, .p (.mov), [.t 26], none⟩]) (.seq (.ops false [] [⟨some 28, .load 7 true, [.t 5], none⟩, ⟨some 29, .call 16, [.t 28], none⟩, ⟨some 27, .p (.mov), [.t 29], none⟩, ⟨some 30, .p (.ext 0), [.t 27], none⟩, ⟨some 31, .p (.ext 1), [.t 27], none⟩, ⟨some 7, .alloc 23 4 [.agg [.int .i64 0, .int .i64 0, .int .i64 0, .int .i64 0]], [], none⟩, ⟨none, .store 4 true, [.t 7, .t 30], none⟩, ⟨some 8, .p (.mov), [.t 31], none⟩]) (.seq (.seq (.ops false [] [⟨some 32, .p (.mov), [.t 6], none⟩, ⟨some 33, .p (.binI .neq), [.t 32, .c (.int .i64 0)], none⟩, ⟨some 34, .p (.mov), [.t 33], none⟩, ⟨some 35, .p (.mov), [.t 8], some (34, false)⟩, ⟨some 36, .p (.binI .neq), [.t 35, .c (.int .i64 0)], some (34, false)⟩, ⟨some 37, .p (.pick), [.t 34, .c (.bool true), .t 36], none⟩, ⟨some 38, .p (.mov), [.t 37], none⟩, ⟨some 39, .load 4 true, [.t 7], some (38, false)⟩, ⟨some 40, .load 4 true, [.t 2], some (38, false)⟩, ⟨some 41, .p (.eqa true [.i, .i, .i, .i]), [.t 39, .t 40], some (38, false)⟩, ⟨some 42, .p (.pick), [.t 38, .c (.bool true), .t 41], none⟩]) (.cond (.t 42) (.seq (.ops false [] [⟨some 4, .p (.mov), [.c (.bool false)], none⟩]) (.ret)) (.skip))) (.seq (.ops true [] [⟨some 43, .p (.iaddrA 3 1), [.t 3, .c (.int .i64 0)], none⟩, ⟨some 44, .load 1 false, [.t 43], none⟩, ⟨some 45, .call 20, [.t 44, .c (.int .i64 7)], none⟩, ⟨some 46, .p (.iaddrA 3 1), [.t 3, .c (.int .i64 1)], none⟩, ⟨some 47, .load 1 false, [.t 46], none⟩, ⟨some 48, .call 20, [.t 47, .c (.int .i64 7)], none⟩, ⟨some 9, .p (.mov), [.t 45], none⟩, ⟨some 10, .p (.mov), [.t 48], none⟩]) (.seq (.ops true [(0, 2), (1, 2), (0, 3), (1, 3), (2, 3), (1, 4)] [⟨some 49, .load 7 true, [.t 5], none⟩, ⟨some 50, .load 7 true, [.t 5], none⟩, ⟨some 11, .alloc 24 1 [.int .i64 0, .int .i64 0, .int .i64 0, .int .i64 0, .int .i64 0, .int .i64 0, .int .i64 0], [], none⟩, ⟨some 12, .alloc 24 1 [.int .i64 0, .int .i64 0, .int .i64 0, .int .i64 0, .int .i64 0, .int .i64 0, .int .i64 0], [], none⟩, ⟨none, .store 7 true, [.t 11, .t 49], none⟩, ⟨none, .store 7 true, [.t 12, .t 50], none⟩]) (.seq (.ops true [] [⟨some 51, .p (.mov), [.t 9], none⟩, ⟨some 52, .p (.mov), [.t 9], none⟩, ⟨some 53, .p (.iaddrA 7 1), [.t 5, .t 52], none⟩, ⟨some 54, .load 1 false, [.t 53], none⟩, ⟨some 55, .p (.binI .add), [.t 54, .c (.int .i64 1)], none⟩, ⟨some 56, .p (.iaddrA 3 1), [.t 3, .c (.int .i64 2)], none⟩, ⟨some 57, .load 1 false, [.t 56], none⟩, ⟨some 58, .call 20, [.t 57, .c (.int .i64 250)], none⟩, ⟨some 59, .p (.binI .add), [.t 55, .t 58], none⟩, ⟨some 60, .call 20, [.t 59, .c (.int .i64 251)], none⟩, ⟨some 61, .p (.iaddrA 7 1), [.t 11, .t 51], none⟩, ⟨none, .store 1 false, [.t 61, .t 60], none⟩]) (.seq (.ops true [(7, 9)] [⟨some 62, .p (.mov), [.t 9], none⟩, ⟨some 63, .p (.mov), [.t 10], none⟩, ⟨some 64, .p (.mov), [.t 10], none⟩, ⟨some 65, .p (.iaddrA 7 1), [.t 5, .t 64], none⟩, ⟨some 66, .load 1 false, [.t 65], none⟩, ⟨some 67, .p (.mov), [.t 9], none⟩, ⟨some 68, .p (.iaddrA 7 1), [.t 5, .t 67], none⟩, ⟨some 69, .load 1 false, [.t 68], none⟩, ⟨some 70, .p (.iaddrA 7 1), [.t 12, .t 62], none⟩, ⟨none, .store 1 false, [.t 70, .t 66], none⟩, ⟨some 71, .p (.iaddrA 7 1), [.t 12, .t 63], none⟩, ⟨none, .store 1 false, [.t 71, .t 69], none⟩]) (.seq (.ops false [] [⟨some 73, .load 7 true, [.t 11], none⟩, ⟨some 74, .call 16, [.t 73], none⟩, ⟨some 72, .p (.mov), [.t 74], none⟩, ⟨some 75, .p (.ext 0), [.t 72], none⟩, ⟨some 76, .p (.ext 1), [.t 72], none⟩, ⟨some 13, .alloc 23 4 [.agg [.int .i64 0, .int .i64 0, .int .i64 0, .int .i64 0]], [], none⟩, ⟨none, .store 4 true, [.t 13, .t 75], none⟩, ⟨some 14, .p (.mov), [.t 76], none⟩]) (.seq (.ops false [] [⟨some 78, .load 7 true, [.t 12], none⟩, ⟨some 79, .call 16, [.t 78], none⟩, ⟨some 77, .p (.mov), [.t 79], none⟩, ⟨some 80, .p (.ext 0), [.t 77], none⟩, ⟨some 81, .p (.ext 1), [.t 77], none⟩, ⟨some 15, .alloc 23 4 [.agg [.int .i64 0, .int .i64 0, .int .i64 0, .int .i64 0]], [], none⟩, ⟨none, .store 4 true, [.t 15, .t 80], none⟩, ⟨some 16, .p (.mov), [.t 81], none⟩]) (.seq (.ops true [] [⟨some 82, .p (.mov), [.t 14], none⟩, ⟨some 83, .p (.binI .eql), [.t 82, .c (.int .i64 17)], none⟩, ⟨some 84, .p (.mov), [.t 83], none⟩, ⟨some 85, .p (.mov), [.t 9], some (84, true)⟩, ⟨some 86, .p (.iaddrA 7 1), [.t 5, .t 85], some (84, true)⟩, ⟨some 87, .load 1 false, [.t 86], some (84, true)⟩, ⟨some 88, .p (.mov), [.t 10], some (84, true)⟩, ⟨some 89, .p (.iaddrA 7 1), [.t 5, .t 88], some (84, true)⟩, ⟨some 90, .load 1 false, [.t 89], some (84, true)⟩, ⟨some 91, .p (.binI .eql), [.t 87, .t 90], some (84, true)⟩, ⟨some 92, .p (.mov), [.t 91], some (84, true)⟩, ⟨some 93, .p (.mov), [.t 16], some (92, true)⟩, ⟨some 94, .p (.binI .eql), [.t 93, .c (.int .i64 0)], some (92, true)⟩, ⟨some 95, .p (.pick), [.t 92, .t 94, .c (.bool false)], some (84, true)⟩, ⟨some 96, .p (.mov), [.t 95], some (84, true)⟩, ⟨some 97, .load 4 true, [.t 15], some (96, true)⟩, ⟨some 98, .load 4 true, [.t 2], some (96, true)⟩, ⟨some 99, .p (.eqa false [.i, .i, .i, .i]), [.t 97, .t 98], some (96, true)⟩, ⟨some 100, .p (.pick), [.t 96, .t 99, .c (.bool false)], some (84, true)⟩, ⟨some 101, .p (.mov), [.t 100], some (84, true)⟩, ⟨some 102, .p (.mov), [.t 9], some (101, false)⟩, ⟨some 103, .p (.iaddrA 7 1), [.t 5, .t 102], some (101, false)⟩, ⟨some 104, .load 1 false, [.t 103], some (101, false)⟩, ⟨some 105, .p (.mov), [.t 10], some (101, false)⟩, ⟨some 106, .p (.iaddrA 7 1), [.t 5, .t 105], some (101, false)⟩, ⟨some 107, .load 1 false, [.t 106], some (101, false)⟩, ⟨some 108, .p (.binI .neq), [.t 104, .t 107], some (101, false)⟩, ⟨some 109, .p (.mov), [.t 108], some (101, false)⟩, ⟨some 110, .p (.mov), [.t 16], some (109, true)⟩, ⟨some 111, .p (.binI .eql), [.t 110, .c (.int .i64 17)], some (109, true)⟩, ⟨some 112, .p (.pick), [.t 109, .t 111, .c (.bool false)], some (101, false)⟩, ⟨some 113, .p (.pick), [.t 101, .c (.bool true), .t 112], some (84, true)⟩, ⟨some 114, .p (.pick), [.t 84, .t 113, .c (.bool false)], none⟩, ⟨some 4, .p (.mov), [.t 114], none⟩]) (.ret)))))))))))))
theorem c4 : FnC Try.prog 4 115 a4 [.tmp 4] := ⟨Try.call4, _, _, Try.func4, rfl, by kernel_rfl, by kernel_rfl, rfl⟩
/-- glidepath/glidepathbase.Mod -/
def a20 : AC := .seq (.ops false [] [⟨some 4, .p (.mov), [.c (.int .i64 0)], none⟩]) (.seq (.ops false [] [⟨some 5, .p (.mov), [.t 0], none⟩, ⟨some 6, .p (.mov), [.t 1], none⟩, ⟨some 7, .p (.binI .rem), [.t 5, .t 6], none⟩, ⟨some 0, .p (.mov), [.t 7], none⟩]) (.seq (.seq (.ops false [] [⟨some 8, .p (.mov), [.t 0], none⟩, ⟨some 9, .p (.binI .lss), [.t 8, .c (.int .i64 0)], none⟩]) (.cond (.t 9) (.ops false [] [⟨some 10, .p (.mov), [.t 0], none⟩, ⟨some 11, .p (.mov), [.t 1], none⟩, ⟨some 12, .p (.binI .add), [.t 10, .t 11], none⟩, ⟨some 0, .p (.mov), [.t 12], none⟩]) (.skip))) (.seq (.ops false [] [⟨some 13, .p (.mov), [.t 0], none⟩, ⟨some 4, .p (.mov), [.t 13], none⟩]) (.ret))))
theorem c20 : FnC Try.prog 20 14 a20 [.tmp 4] := ⟨Try.call20, _, _, Try.func20, rfl, by kernel_rfl, by kernel_rfl, rfl⟩
namespace Sh

/-! Mod -/
theorem tm_eq (n : Int) {b : Int} (hb : b = 7 ∨ b = 250 ∨ b = 251) : n.tmod b < 0 ∧ n.tmod b + b = n % b ∨ ¬ n.tmod b < 0 ∧ n.tmod b = n % b := by
  rcases Int.le_total 0 n with h | h
  · have := Int.tmod_eq_emod_of_nonneg (b := b) h
    rcases hb with rfl | rfl | rfl <;> omega
  · obtain ⟨m, rfl⟩ : ∃ m : Int, n = -m := ⟨-n, by omega⟩
    have := Int.tmod_eq_emod_of_nonneg (a := m) (b := b) (by omega)
    rw [Int.neg_tmod, this]
    rcases hb with rfl | rfl | rfl <;> omega
theorem k20 (n b : Int) (hb : b = 7 ∨ b = 250 ∨ b = 251) : FOk P 20 [I n, I b] (I (n % b)) := by
  refine c20.fok rfl (Cor.run (noC_good _) (noHx_good _) hm ?_)
  have hb0 : (b = 0) = False := by simp only [eq_iff_iff, iff_false]; omega
  rcases tm_eq n hb with ⟨h1, h2⟩ | ⟨h1, h2⟩
  · have hr : 0 ≤ n % b ∧ n % b < 251 := by rcases hb with rfl | rfl | rfl <;> omega
    have e1 : IntKind.wrap .i64 (n.tmod b) = n.tmod b := wrap64 (by omega) (by omega)
    have e2 : IntKind.wrap .i64 (n.tmod b + b) = n % b := by rw [wrap64 (by omega) (by omega)]; exact h2
    simp +contextual -implicitDefEqProofs only [bg_eq, a20, hb0, h1, e1, e2, g_u, rd_ps, rl_nil, rl_cons, rlK_some, chkD_some, al_nil, al_cons, gF_0, gF_s, id_nn, id_sn, id_ns, id_ss, f_p, f_fbs, f_load, f_call, f_callv, t_callv, f_alloc, f_boxF, f_bsl, f_store, f_app, wS_set, wA_no, wA_new, wA_ext, gi_nil, gi_cons, cG_some, cG_none, tl_nil, tl_ptr, tl_slice, tl_int, tl_bool, tl_str, tl_agg, tl_tup, tl_vs, tl_vp, tl_fn, tl_nils, d_and, d_or, d_not, d_nn, pk_and, pk_or, pk_orn, Decidable.not_not, Int.reduceLT, Int.reduceLE, Int.reduceAdd, Int.reduceSub, Int.reduceMul, Int.reduceNeg, Int.reduceToNat, Int.reduceEq, Int.reduceNe, Int.reduceTDiv, Int.reduceTMod, rd_w, wr_w, ro_one, fl_nil, fl_cons, wrapL, Rd_s, implies_true, Int.toNat_natCast, Int.natCast_nonneg, W_skip, W_ops, W_opsD, W_seq, W_cond, W_block, W_exit, W_ret, W_loop, W_rf, RN_some, R_nil, R_nth, R_nbl, R_npr, R_rth, R_rbl, R_rpr, R_eth, R_epr, R_ebl, R_ebn, CV_t, CV_f, CV_d, rh_no, r_nil, r_cons, rd_nil, s_p, s_load1, s_call1, s_callv1, s_fbs1, s_alloc1, s_boxF1, s_boxT1, s_bsl1, s_store1, s_app1, boxF_sc, boxT_1, boxT_1n, valOp_callv, fbs_ok, bsl_ok, putT_s, putT_n, putS_set, putA_eq, ap_no, ap_new, ap_set, ap_ext, q_p, q_load, q_call, q_callv, q_fbs, gP_eq, gL_eq, gC_eq, gV_eq, gF_eq, gE_t, gE_f, gE_nt, gE_nf, g_t, g_f, gbool_opt, gif_true, gif_false, gif_some, obind_some, e_mov, e_pick, e_add, e_sub, e_mul, e_quo, e_rem, e_eql, e_neq, e_lss, e_leq, e_gtr, e_geq, e_eqB, e_neB, e_eqN, e_neN, e_eqa, e_nea, e_neg, e_not, e_conv, e_build, e_mkfn, e_faddr, e_faddrV, e_field, e_iaddrS, e_iaddrA, e_idxA, e_ext, e_lenT, e_lenS, e_lenV, e_lenN, e_lenC, e_min, e_max, e_nilP, e_nilV, e_nilF, e_nilY, ia_slice, ia_vs, ia_arr, ia_arrV, sg_t, sg_f, eq_nil, eq_i, eq_b, eq_s, bf_nil, bf_cons, putL, cells_int, cells_bool, cells_str, cells_agg, cells_slice, cells_vs, cells_nil, cells_ptr, cells_fn, sc_int, sc_bool, sc_str, sc_agg, sc_slice, sc_vs, sc_nil, sc_ptr, sc_fn, ag_agg, ag_int, ag_bool, gt_0, gt_s, st_0, st_s, ev_t, ev_c, evs_nil, evs_cons, ge_eq, ge_ne, ge_nil, sb_nil, sb_eq, sb_ne, sb_gone, dg_nil, dg_eq, dg_ne, dg_gone, ld_ptr, ld_vp, ldE_some, rd_f, rdC_some, rd_t, rdA_all, rdA_part, rdV_eq, rdW_f, rdW_all, rdW_part, sto_ptr, stE_some, wr_f, wr_t, wrA_all, wrA_part, wrC_agg, wrC_0, callV_eq, callK_some, callR_pure, callR_flat, pu_nil, pu_cons, consO_some, p_int, p_bool, p_str, p_agg, p_vs, p_fn, p_nil, p_ptr, p_vp, p_slice, purE_some, pR_tup, pR_int, pR_bool, pR_agg, pR_vs, pR_nil, pR_str, pR_slice, pR_fn, sl_int, sl_bool, sl_str, sl_agg, sl_vs, sl_fn, sl_nil, sl_ptr, sl_vp, sl_slice, n_int, n_bool, n_str, n_agg, n_vs, n_tup, n_nil, n_cons, n_nils, app_nil, app_sl, appE_some, appN, appX, src_vs, src_nil, src_sl, srcE_some, pickV_ct, pickV_cf, optv_true, optv_false, res_eq, rvs_nil, rvs_cons, rv_t, rv_c, ro_1, ro_0, ro_2, Eng.Fi, addC_eq, addC_ne, decI_I, decL_nil, decL_cons, consL_some, kF_nil, kF_t, kF_f, kT_nil, kT_t, kT_f, mN_nil, mN_eq, mN_ne,  Option.map_some, Option.bind_some, reduceCtorEq, Option.some.injEq, exists_eq_left', exists_eq_left, and_self, and_true, true_and, false_and, and_false, or_true, true_or, if_true, if_false, Bool.false_eq_true, List.length_cons, List.length_nil, List.length_append, List.replicate, List.cons_append, List.nil_append, List.append_nil, Nat.reduceAdd, Nat.reduceSub, Nat.reduceMul, Nat.reduceLeDiff, Nat.reduceLT, Nat.reduceEqDiff, Nat.zero_add, Nat.add_zero, List.getElem?_cons_zero, List.getElem?_cons_succ, List.set_cons_zero, List.set_cons_succ, List.take_succ_cons, List.take_zero, List.take_nil, List.drop_succ_cons, List.drop_zero, List.drop_nil, List.all_cons, List.all_nil, List.any_cons, List.any_nil, decide_true, decide_false, Bool.and_true, Bool.true_and, Bool.and_false, Bool.false_and, Bool.or_false, Bool.false_or, Bool.or_true, Bool.or_self, Bool.and_self, Bool.not_true, Bool.not_false]
  · have hr : 0 ≤ n % b ∧ n % b < 251 := by rcases hb with rfl | rfl | rfl <;> omega
    have e1 : IntKind.wrap .i64 (n.tmod b) = n % b := by rw [h2]; exact wrap64 (by omega) (by omega)
    have h3 : (n % b < 0) = False := by simp only [eq_iff_iff, iff_false]; omega
    simp +contextual -implicitDefEqProofs only [bg_eq, a20, hb0, h1, h2, e1, h3, g_u, rd_ps, rl_nil, rl_cons, rlK_some, chkD_some, al_nil, al_cons, gF_0, gF_s, id_nn, id_sn, id_ns, id_ss, f_p, f_fbs, f_load, f_call, f_callv, t_callv, f_alloc, f_boxF, f_bsl, f_store, f_app, wS_set, wA_no, wA_new, wA_ext, gi_nil, gi_cons, cG_some, cG_none, tl_nil, tl_ptr, tl_slice, tl_int, tl_bool, tl_str, tl_agg, tl_tup, tl_vs, tl_vp, tl_fn, tl_nils, d_and, d_or, d_not, d_nn, pk_and, pk_or, pk_orn, Decidable.not_not, Int.reduceLT, Int.reduceLE, Int.reduceAdd, Int.reduceSub, Int.reduceMul, Int.reduceNeg, Int.reduceToNat, Int.reduceEq, Int.reduceNe, Int.reduceTDiv, Int.reduceTMod, rd_w, wr_w, ro_one, fl_nil, fl_cons, wrapL, Rd_s, implies_true, Int.toNat_natCast, Int.natCast_nonneg, W_skip, W_ops, W_opsD, W_seq, W_cond, W_block, W_exit, W_ret, W_loop, W_rf, RN_some, R_nil, R_nth, R_nbl, R_npr, R_rth, R_rbl, R_rpr, R_eth, R_epr, R_ebl, R_ebn, CV_t, CV_f, CV_d, rh_no, r_nil, r_cons, rd_nil, s_p, s_load1, s_call1, s_callv1, s_fbs1, s_alloc1, s_boxF1, s_boxT1, s_bsl1, s_store1, s_app1, boxF_sc, boxT_1, boxT_1n, valOp_callv, fbs_ok, bsl_ok, putT_s, putT_n, putS_set, putA_eq, ap_no, ap_new, ap_set, ap_ext, q_p, q_load, q_call, q_callv, q_fbs, gP_eq, gL_eq, gC_eq, gV_eq, gF_eq, gE_t, gE_f, gE_nt, gE_nf, g_t, g_f, gbool_opt, gif_true, gif_false, gif_some, obind_some, e_mov, e_pick, e_add, e_sub, e_mul, e_quo, e_rem, e_eql, e_neq, e_lss, e_leq, e_gtr, e_geq, e_eqB, e_neB, e_eqN, e_neN, e_eqa, e_nea, e_neg, e_not, e_conv, e_build, e_mkfn, e_faddr, e_faddrV, e_field, e_iaddrS, e_iaddrA, e_idxA, e_ext, e_lenT, e_lenS, e_lenV, e_lenN, e_lenC, e_min, e_max, e_nilP, e_nilV, e_nilF, e_nilY, ia_slice, ia_vs, ia_arr, ia_arrV, sg_t, sg_f, eq_nil, eq_i, eq_b, eq_s, bf_nil, bf_cons, putL, cells_int, cells_bool, cells_str, cells_agg, cells_slice, cells_vs, cells_nil, cells_ptr, cells_fn, sc_int, sc_bool, sc_str, sc_agg, sc_slice, sc_vs, sc_nil, sc_ptr, sc_fn, ag_agg, ag_int, ag_bool, gt_0, gt_s, st_0, st_s, ev_t, ev_c, evs_nil, evs_cons, ge_eq, ge_ne, ge_nil, sb_nil, sb_eq, sb_ne, sb_gone, dg_nil, dg_eq, dg_ne, dg_gone, ld_ptr, ld_vp, ldE_some, rd_f, rdC_some, rd_t, rdA_all, rdA_part, rdV_eq, rdW_f, rdW_all, rdW_part, sto_ptr, stE_some, wr_f, wr_t, wrA_all, wrA_part, wrC_agg, wrC_0, callV_eq, callK_some, callR_pure, callR_flat, pu_nil, pu_cons, consO_some, p_int, p_bool, p_str, p_agg, p_vs, p_fn, p_nil, p_ptr, p_vp, p_slice, purE_some, pR_tup, pR_int, pR_bool, pR_agg, pR_vs, pR_nil, pR_str, pR_slice, pR_fn, sl_int, sl_bool, sl_str, sl_agg, sl_vs, sl_fn, sl_nil, sl_ptr, sl_vp, sl_slice, n_int, n_bool, n_str, n_agg, n_vs, n_tup, n_nil, n_cons, n_nils, app_nil, app_sl, appE_some, appN, appX, src_vs, src_nil, src_sl, srcE_some, pickV_ct, pickV_cf, optv_true, optv_false, res_eq, rvs_nil, rvs_cons, rv_t, rv_c, ro_1, ro_0, ro_2, Eng.Fi, addC_eq, addC_ne, decI_I, decL_nil, decL_cons, consL_some, kF_nil, kF_t, kF_f, kT_nil, kT_t, kT_f, mN_nil, mN_eq, mN_ne,  Option.map_some, Option.bind_some, reduceCtorEq, Option.some.injEq, exists_eq_left', exists_eq_left, and_self, and_true, true_and, false_and, and_false, or_true, true_or, if_true, if_false, Bool.false_eq_true, List.length_cons, List.length_nil, List.length_append, List.replicate, List.cons_append, List.nil_append, List.append_nil, Nat.reduceAdd, Nat.reduceSub, Nat.reduceMul, Nat.reduceLeDiff, Nat.reduceLT, Nat.reduceEqDiff, Nat.zero_add, Nat.add_zero, List.getElem?_cons_zero, List.getElem?_cons_succ, List.set_cons_zero, List.set_cons_succ, List.take_succ_cons, List.take_zero, List.take_nil, List.drop_succ_cons, List.drop_zero, List.drop_nil, List.all_cons, List.all_nil, List.any_cons, List.any_nil, decide_true, decide_false, Bool.and_true, Bool.true_and, Bool.and_false, Bool.false_and, Bool.or_false, Bool.false_or, Bool.or_true, Bool.or_self, Bool.and_self, Bool.not_true, Bool.not_false]
def c20f : List AV → Option AV
  | [.int .i64 n, .int .i64 b] => if b = 7 ∨ b = 250 ∨ b = 251 then some (I (n % b)) else none
  | _ => none
theorem g20 : Fn P 20 c20f := fun args v h => by
  unfold c20f at h; split at h
  · split at h
    · rename_i hc; cases h; exact k20 _ _ hc
    · cases h
  · cases h
theorem x20a (n : Int) : c20f [.int .i64 n, .int .i64 7] = some (I (n % 7)) := rfl
theorem x20b (n : Int) : c20f [.int .i64 n, .int .i64 250] = some (I (n % 250)) := rfl
theorem x20c (n : Int) : c20f [.int .i64 n, .int .i64 251] = some (I (n % 251)) := rfl

/-! wrong words -/
theorem dec17 {a b c d e f g : Int} (hw : W7p a b c d e f g) (h : ¬ ws7 a b c d e f g % 251 = 0) : c16f [.agg [I a, I b, I c, I d, I e, I f, I g]] = some (.tup [.agg [I 0, I 0, I 0, I 0], I 17]) := by
  have h0 : 0 ≤ ws7 a b c d e f g := by unfold ws7; unfold W7p at hw; omega
  have e1 : decE a b c d e f g = 17 := by
    unfold decE
    rw [if_pos hw, if_neg (by rw [Int.tmod_eq_emod_of_nonneg h0]; exact h)]
  show some (decV a b c d e f g) = _
  simp [decV, e1]
theorem one17 {a b c d e f g : Int} (hw : W7p a b c d e f g) (h : ws7 a b c d e f g % 251 = 0) : ∀ (i : Nat) (hi : i < 7) (x y : Int), [I a, I b, I c, I d, I e, I f, I g][i]? = some (I x) → 0 ≤ y ∧ y ≤ 250 → x ≠ y →
    c16f [.agg ([I a, I b, I c, I d, I e, I f, I g].set i (I y))] = some (.tup [.agg [I 0, I 0, I 0, I 0], I 17]) := fun i hi x y hx hy hne => match i with
  | 0 => by
    simp only [List.getElem?_cons_zero, List.getElem?_cons_succ, Option.some.injEq, AV.int.injEq, true_and] at hx
    subst hx
    simp only [List.set_cons_zero, List.set_cons_succ]
    exact dec17 (by unfold W7p at *; omega) (by unfold ws7 at *; unfold W7p at hw; omega)
  | 1 => by
    simp only [List.getElem?_cons_zero, List.getElem?_cons_succ, Option.some.injEq, AV.int.injEq, true_and] at hx
    subst hx
    simp only [List.set_cons_zero, List.set_cons_succ]
    exact dec17 (by unfold W7p at *; omega) (by unfold ws7 at *; unfold W7p at hw; omega)
  | 2 => by
    simp only [List.getElem?_cons_zero, List.getElem?_cons_succ, Option.some.injEq, AV.int.injEq, true_and] at hx
    subst hx
    simp only [List.set_cons_zero, List.set_cons_succ]
    exact dec17 (by unfold W7p at *; omega) (by unfold ws7 at *; unfold W7p at hw; omega)
  | 3 => by
    simp only [List.getElem?_cons_zero, List.getElem?_cons_succ, Option.some.injEq, AV.int.injEq, true_and] at hx
    subst hx
    simp only [List.set_cons_zero, List.set_cons_succ]
    exact dec17 (by unfold W7p at *; omega) (by unfold ws7 at *; unfold W7p at hw; omega)
  | 4 => by
    simp only [List.getElem?_cons_zero, List.getElem?_cons_succ, Option.some.injEq, AV.int.injEq, true_and] at hx
    subst hx
    simp only [List.set_cons_zero, List.set_cons_succ]
    exact dec17 (by unfold W7p at *; omega) (by unfold ws7 at *; unfold W7p at hw; omega)
  | 5 => by
    simp only [List.getElem?_cons_zero, List.getElem?_cons_succ, Option.some.injEq, AV.int.injEq, true_and] at hx
    subst hx
    simp only [List.set_cons_zero, List.set_cons_succ]
    exact dec17 (by unfold W7p at *; omega) (by unfold ws7 at *; unfold W7p at hw; omega)
  | 6 => by
    simp only [List.getElem?_cons_zero, List.getElem?_cons_succ, Option.some.injEq, AV.int.injEq, true_and] at hx
    subst hx
    simp only [List.set_cons_zero, List.set_cons_succ]
    exact dec17 (by unfold W7p at *; omega) (by unfold ws7 at *; unfold W7p at hw; omega)
  | n + 7 => by omega
theorem two17_0 {a b c d e f g : Int} (hw : W7p a b c d e f g) (h : ws7 a b c d e f g % 251 = 0) : ∀ (k : Nat) (hk : k < 7) (y : Int), [I a, I b, I c, I d, I e, I f, I g][k]? = some (I y) → a ≠ y →
    c16f [.agg (([I a, I b, I c, I d, I e, I f, I g].set 0 (I y)).set k (I a))] = some (.tup [.agg [I 0, I 0, I 0, I 0], I 17]) := fun k hk y hy hne => match k with
  | 0 => by
    simp only [List.getElem?_cons_zero, List.getElem?_cons_succ, Option.some.injEq, AV.int.injEq, true_and] at hy
    subst hy
    exact absurd rfl hne
  | 1 => by
    simp only [List.getElem?_cons_zero, List.getElem?_cons_succ, Option.some.injEq, AV.int.injEq, true_and] at hy
    subst hy
    simp only [List.set_cons_zero, List.set_cons_succ]
    exact dec17 (by unfold W7p at *; omega) (by unfold ws7 at *; unfold W7p at hw; omega)
  | 2 => by
    simp only [List.getElem?_cons_zero, List.getElem?_cons_succ, Option.some.injEq, AV.int.injEq, true_and] at hy
    subst hy
    simp only [List.set_cons_zero, List.set_cons_succ]
    exact dec17 (by unfold W7p at *; omega) (by unfold ws7 at *; unfold W7p at hw; omega)
  | 3 => by
    simp only [List.getElem?_cons_zero, List.getElem?_cons_succ, Option.some.injEq, AV.int.injEq, true_and] at hy
    subst hy
    simp only [List.set_cons_zero, List.set_cons_succ]
    exact dec17 (by unfold W7p at *; omega) (by unfold ws7 at *; unfold W7p at hw; omega)
  | 4 => by
    simp only [List.getElem?_cons_zero, List.getElem?_cons_succ, Option.some.injEq, AV.int.injEq, true_and] at hy
    subst hy
    simp only [List.set_cons_zero, List.set_cons_succ]
    exact dec17 (by unfold W7p at *; omega) (by unfold ws7 at *; unfold W7p at hw; omega)
  | 5 => by
    simp only [List.getElem?_cons_zero, List.getElem?_cons_succ, Option.some.injEq, AV.int.injEq, true_and] at hy
    subst hy
    simp only [List.set_cons_zero, List.set_cons_succ]
    exact dec17 (by unfold W7p at *; omega) (by unfold ws7 at *; unfold W7p at hw; omega)
  | 6 => by
    simp only [List.getElem?_cons_zero, List.getElem?_cons_succ, Option.some.injEq, AV.int.injEq, true_and] at hy
    subst hy
    simp only [List.set_cons_zero, List.set_cons_succ]
    exact dec17 (by unfold W7p at *; omega) (by unfold ws7 at *; unfold W7p at hw; omega)
  | n + 7 => by omega
theorem two17_1 {a b c d e f g : Int} (hw : W7p a b c d e f g) (h : ws7 a b c d e f g % 251 = 0) : ∀ (k : Nat) (hk : k < 7) (y : Int), [I a, I b, I c, I d, I e, I f, I g][k]? = some (I y) → b ≠ y →
    c16f [.agg (([I a, I b, I c, I d, I e, I f, I g].set 1 (I y)).set k (I b))] = some (.tup [.agg [I 0, I 0, I 0, I 0], I 17]) := fun k hk y hy hne => match k with
  | 0 => by
    simp only [List.getElem?_cons_zero, List.getElem?_cons_succ, Option.some.injEq, AV.int.injEq, true_and] at hy
    subst hy
    simp only [List.set_cons_zero, List.set_cons_succ]
    exact dec17 (by unfold W7p at *; omega) (by unfold ws7 at *; unfold W7p at hw; omega)
  | 1 => by
    simp only [List.getElem?_cons_zero, List.getElem?_cons_succ, Option.some.injEq, AV.int.injEq, true_and] at hy
    subst hy
    exact absurd rfl hne
  | 2 => by
    simp only [List.getElem?_cons_zero, List.getElem?_cons_succ, Option.some.injEq, AV.int.injEq, true_and] at hy
    subst hy
    simp only [List.set_cons_zero, List.set_cons_succ]
    exact dec17 (by unfold W7p at *; omega) (by unfold ws7 at *; unfold W7p at hw; omega)
  | 3 => by
    simp only [List.getElem?_cons_zero, List.getElem?_cons_succ, Option.some.injEq, AV.int.injEq, true_and] at hy
    subst hy
    simp only [List.set_cons_zero, List.set_cons_succ]
    exact dec17 (by unfold W7p at *; omega) (by unfold ws7 at *; unfold W7p at hw; omega)
  | 4 => by
    simp only [List.getElem?_cons_zero, List.getElem?_cons_succ, Option.some.injEq, AV.int.injEq, true_and] at hy
    subst hy
    simp only [List.set_cons_zero, List.set_cons_succ]
    exact dec17 (by unfold W7p at *; omega) (by unfold ws7 at *; unfold W7p at hw; omega)
  | 5 => by
    simp only [List.getElem?_cons_zero, List.getElem?_cons_succ, Option.some.injEq, AV.int.injEq, true_and] at hy
    subst hy
    simp only [List.set_cons_zero, List.set_cons_succ]
    exact dec17 (by unfold W7p at *; omega) (by unfold ws7 at *; unfold W7p at hw; omega)
  | 6 => by
    simp only [List.getElem?_cons_zero, List.getElem?_cons_succ, Option.some.injEq, AV.int.injEq, true_and] at hy
    subst hy
    simp only [List.set_cons_zero, List.set_cons_succ]
    exact dec17 (by unfold W7p at *; omega) (by unfold ws7 at *; unfold W7p at hw; omega)
  | n + 7 => by omega
theorem two17_2 {a b c d e f g : Int} (hw : W7p a b c d e f g) (h : ws7 a b c d e f g % 251 = 0) : ∀ (k : Nat) (hk : k < 7) (y : Int), [I a, I b, I c, I d, I e, I f, I g][k]? = some (I y) → c ≠ y →
    c16f [.agg (([I a, I b, I c, I d, I e, I f, I g].set 2 (I y)).set k (I c))] = some (.tup [.agg [I 0, I 0, I 0, I 0], I 17]) := fun k hk y hy hne => match k with
  | 0 => by
    simp only [List.getElem?_cons_zero, List.getElem?_cons_succ, Option.some.injEq, AV.int.injEq, true_and] at hy
    subst hy
    simp only [List.set_cons_zero, List.set_cons_succ]
    exact dec17 (by unfold W7p at *; omega) (by unfold ws7 at *; unfold W7p at hw; omega)
  | 1 => by
    simp only [List.getElem?_cons_zero, List.getElem?_cons_succ, Option.some.injEq, AV.int.injEq, true_and] at hy
    subst hy
    simp only [List.set_cons_zero, List.set_cons_succ]
    exact dec17 (by unfold W7p at *; omega) (by unfold ws7 at *; unfold W7p at hw; omega)
  | 2 => by
    simp only [List.getElem?_cons_zero, List.getElem?_cons_succ, Option.some.injEq, AV.int.injEq, true_and] at hy
    subst hy
    exact absurd rfl hne
  | 3 => by
    simp only [List.getElem?_cons_zero, List.getElem?_cons_succ, Option.some.injEq, AV.int.injEq, true_and] at hy
    subst hy
    simp only [List.set_cons_zero, List.set_cons_succ]
    exact dec17 (by unfold W7p at *; omega) (by unfold ws7 at *; unfold W7p at hw; omega)
  | 4 => by
    simp only [List.getElem?_cons_zero, List.getElem?_cons_succ, Option.some.injEq, AV.int.injEq, true_and] at hy
    subst hy
    simp only [List.set_cons_zero, List.set_cons_succ]
    exact dec17 (by unfold W7p at *; omega) (by unfold ws7 at *; unfold W7p at hw; omega)
  | 5 => by
    simp only [List.getElem?_cons_zero, List.getElem?_cons_succ, Option.some.injEq, AV.int.injEq, true_and] at hy
    subst hy
    simp only [List.set_cons_zero, List.set_cons_succ]
    exact dec17 (by unfold W7p at *; omega) (by unfold ws7 at *; unfold W7p at hw; omega)
  | 6 => by
    simp only [List.getElem?_cons_zero, List.getElem?_cons_succ, Option.some.injEq, AV.int.injEq, true_and] at hy
    subst hy
    simp only [List.set_cons_zero, List.set_cons_succ]
    exact dec17 (by unfold W7p at *; omega) (by unfold ws7 at *; unfold W7p at hw; omega)
  | n + 7 => by omega
theorem two17_3 {a b c d e f g : Int} (hw : W7p a b c d e f g) (h : ws7 a b c d e f g % 251 = 0) : ∀ (k : Nat) (hk : k < 7) (y : Int), [I a, I b, I c, I d, I e, I f, I g][k]? = some (I y) → d ≠ y →
    c16f [.agg (([I a, I b, I c, I d, I e, I f, I g].set 3 (I y)).set k (I d))] = some (.tup [.agg [I 0, I 0, I 0, I 0], I 17]) := fun k hk y hy hne => match k with
  | 0 => by
    simp only [List.getElem?_cons_zero, List.getElem?_cons_succ, Option.some.injEq, AV.int.injEq, true_and] at hy
    subst hy
    simp only [List.set_cons_zero, List.set_cons_succ]
    exact dec17 (by unfold W7p at *; omega) (by unfold ws7 at *; unfold W7p at hw; omega)
  | 1 => by
    simp only [List.getElem?_cons_zero, List.getElem?_cons_succ, Option.some.injEq, AV.int.injEq, true_and] at hy
    subst hy
    simp only [List.set_cons_zero, List.set_cons_succ]
    exact dec17 (by unfold W7p at *; omega) (by unfold ws7 at *; unfold W7p at hw; omega)
  | 2 => by
    simp only [List.getElem?_cons_zero, List.getElem?_cons_succ, Option.some.injEq, AV.int.injEq, true_and] at hy
    subst hy
    simp only [List.set_cons_zero, List.set_cons_succ]
    exact dec17 (by unfold W7p at *; omega) (by unfold ws7 at *; unfold W7p at hw; omega)
  | 3 => by
    simp only [List.getElem?_cons_zero, List.getElem?_cons_succ, Option.some.injEq, AV.int.injEq, true_and] at hy
    subst hy
    exact absurd rfl hne
  | 4 => by
    simp only [List.getElem?_cons_zero, List.getElem?_cons_succ, Option.some.injEq, AV.int.injEq, true_and] at hy
    subst hy
    simp only [List.set_cons_zero, List.set_cons_succ]
    exact dec17 (by unfold W7p at *; omega) (by unfold ws7 at *; unfold W7p at hw; omega)
  | 5 => by
    simp only [List.getElem?_cons_zero, List.getElem?_cons_succ, Option.some.injEq, AV.int.injEq, true_and] at hy
    subst hy
    simp only [List.set_cons_zero, List.set_cons_succ]
    exact dec17 (by unfold W7p at *; omega) (by unfold ws7 at *; unfold W7p at hw; omega)
  | 6 => by
    simp only [List.getElem?_cons_zero, List.getElem?_cons_succ, Option.some.injEq, AV.int.injEq, true_and] at hy
    subst hy
    simp only [List.set_cons_zero, List.set_cons_succ]
    exact dec17 (by unfold W7p at *; omega) (by unfold ws7 at *; unfold W7p at hw; omega)
  | n + 7 => by omega
theorem two17_4 {a b c d e f g : Int} (hw : W7p a b c d e f g) (h : ws7 a b c d e f g % 251 = 0) : ∀ (k : Nat) (hk : k < 7) (y : Int), [I a, I b, I c, I d, I e, I f, I g][k]? = some (I y) → e ≠ y →
    c16f [.agg (([I a, I b, I c, I d, I e, I f, I g].set 4 (I y)).set k (I e))] = some (.tup [.agg [I 0, I 0, I 0, I 0], I 17]) := fun k hk y hy hne => match k with
  | 0 => by
    simp only [List.getElem?_cons_zero, List.getElem?_cons_succ, Option.some.injEq, AV.int.injEq, true_and] at hy
    subst hy
    simp only [List.set_cons_zero, List.set_cons_succ]
    exact dec17 (by unfold W7p at *; omega) (by unfold ws7 at *; unfold W7p at hw; omega)
  | 1 => by
    simp only [List.getElem?_cons_zero, List.getElem?_cons_succ, Option.some.injEq, AV.int.injEq, true_and] at hy
    subst hy
    simp only [List.set_cons_zero, List.set_cons_succ]
    exact dec17 (by unfold W7p at *; omega) (by unfold ws7 at *; unfold W7p at hw; omega)
  | 2 => by
    simp only [List.getElem?_cons_zero, List.getElem?_cons_succ, Option.some.injEq, AV.int.injEq, true_and] at hy
    subst hy
    simp only [List.set_cons_zero, List.set_cons_succ]
    exact dec17 (by unfold W7p at *; omega) (by unfold ws7 at *; unfold W7p at hw; omega)
  | 3 => by
    simp only [List.getElem?_cons_zero, List.getElem?_cons_succ, Option.some.injEq, AV.int.injEq, true_and] at hy
    subst hy
    simp only [List.set_cons_zero, List.set_cons_succ]
    exact dec17 (by unfold W7p at *; omega) (by unfold ws7 at *; unfold W7p at hw; omega)
  | 4 => by
    simp only [List.getElem?_cons_zero, List.getElem?_cons_succ, Option.some.injEq, AV.int.injEq, true_and] at hy
    subst hy
    exact absurd rfl hne
  | 5 => by
    simp only [List.getElem?_cons_zero, List.getElem?_cons_succ, Option.some.injEq, AV.int.injEq, true_and] at hy
    subst hy
    simp only [List.set_cons_zero, List.set_cons_succ]
    exact dec17 (by unfold W7p at *; omega) (by unfold ws7 at *; unfold W7p at hw; omega)
  | 6 => by
    simp only [List.getElem?_cons_zero, List.getElem?_cons_succ, Option.some.injEq, AV.int.injEq, true_and] at hy
    subst hy
    simp only [List.set_cons_zero, List.set_cons_succ]
    exact dec17 (by unfold W7p at *; omega) (by unfold ws7 at *; unfold W7p at hw; omega)
  | n + 7 => by omega
theorem two17_5 {a b c d e f g : Int} (hw : W7p a b c d e f g) (h : ws7 a b c d e f g % 251 = 0) : ∀ (k : Nat) (hk : k < 7) (y : Int), [I a, I b, I c, I d, I e, I f, I g][k]? = some (I y) → f ≠ y →
    c16f [.agg (([I a, I b, I c, I d, I e, I f, I g].set 5 (I y)).set k (I f))] = some (.tup [.agg [I 0, I 0, I 0, I 0], I 17]) := fun k hk y hy hne => match k with
  | 0 => by
    simp only [List.getElem?_cons_zero, List.getElem?_cons_succ, Option.some.injEq, AV.int.injEq, true_and] at hy
    subst hy
    simp only [List.set_cons_zero, List.set_cons_succ]
    exact dec17 (by unfold W7p at *; omega) (by unfold ws7 at *; unfold W7p at hw; omega)
  | 1 => by
    simp only [List.getElem?_cons_zero, List.getElem?_cons_succ, Option.some.injEq, AV.int.injEq, true_and] at hy
    subst hy
    simp only [List.set_cons_zero, List.set_cons_succ]
    exact dec17 (by unfold W7p at *; omega) (by unfold ws7 at *; unfold W7p at hw; omega)
  | 2 => by
    simp only [List.getElem?_cons_zero, List.getElem?_cons_succ, Option.some.injEq, AV.int.injEq, true_and] at hy
    subst hy
    simp only [List.set_cons_zero, List.set_cons_succ]
    exact dec17 (by unfold W7p at *; omega) (by unfold ws7 at *; unfold W7p at hw; omega)
  | 3 => by
    simp only [List.getElem?_cons_zero, List.getElem?_cons_succ, Option.some.injEq, AV.int.injEq, true_and] at hy
    subst hy
    simp only [List.set_cons_zero, List.set_cons_succ]
    exact dec17 (by unfold W7p at *; omega) (by unfold ws7 at *; unfold W7p at hw; omega)
  | 4 => by
    simp only [List.getElem?_cons_zero, List.getElem?_cons_succ, Option.some.injEq, AV.int.injEq, true_and] at hy
    subst hy
    simp only [List.set_cons_zero, List.set_cons_succ]
    exact dec17 (by unfold W7p at *; omega) (by unfold ws7 at *; unfold W7p at hw; omega)
  | 5 => by
    simp only [List.getElem?_cons_zero, List.getElem?_cons_succ, Option.some.injEq, AV.int.injEq, true_and] at hy
    subst hy
    exact absurd rfl hne
  | 6 => by
    simp only [List.getElem?_cons_zero, List.getElem?_cons_succ, Option.some.injEq, AV.int.injEq, true_and] at hy
    subst hy
    simp only [List.set_cons_zero, List.set_cons_succ]
    exact dec17 (by unfold W7p at *; omega) (by unfold ws7 at *; unfold W7p at hw; omega)
  | n + 7 => by omega
theorem two17_6 {a b c d e f g : Int} (hw : W7p a b c d e f g) (h : ws7 a b c d e f g % 251 = 0) : ∀ (k : Nat) (hk : k < 7) (y : Int), [I a, I b, I c, I d, I e, I f, I g][k]? = some (I y) → g ≠ y →
    c16f [.agg (([I a, I b, I c, I d, I e, I f, I g].set 6 (I y)).set k (I g))] = some (.tup [.agg [I 0, I 0, I 0, I 0], I 17]) := fun k hk y hy hne => match k with
  | 0 => by
    simp only [List.getElem?_cons_zero, List.getElem?_cons_succ, Option.some.injEq, AV.int.injEq, true_and] at hy
    subst hy
    simp only [List.set_cons_zero, List.set_cons_succ]
    exact dec17 (by unfold W7p at *; omega) (by unfold ws7 at *; unfold W7p at hw; omega)
  | 1 => by
    simp only [List.getElem?_cons_zero, List.getElem?_cons_succ, Option.some.injEq, AV.int.injEq, true_and] at hy
    subst hy
    simp only [List.set_cons_zero, List.set_cons_succ]
    exact dec17 (by unfold W7p at *; omega) (by unfold ws7 at *; unfold W7p at hw; omega)
  | 2 => by
    simp only [List.getElem?_cons_zero, List.getElem?_cons_succ, Option.some.injEq, AV.int.injEq, true_and] at hy
    subst hy
    simp only [List.set_cons_zero, List.set_cons_succ]
    exact dec17 (by unfold W7p at *; omega) (by unfold ws7 at *; unfold W7p at hw; omega)
  | 3 => by
    simp only [List.getElem?_cons_zero, List.getElem?_cons_succ, Option.some.injEq, AV.int.injEq, true_and] at hy
    subst hy
    simp only [List.set_cons_zero, List.set_cons_succ]
    exact dec17 (by unfold W7p at *; omega) (by unfold ws7 at *; unfold W7p at hw; omega)
  | 4 => by
    simp only [List.getElem?_cons_zero, List.getElem?_cons_succ, Option.some.injEq, AV.int.injEq, true_and] at hy
    subst hy
    simp only [List.set_cons_zero, List.set_cons_succ]
    exact dec17 (by unfold W7p at *; omega) (by unfold ws7 at *; unfold W7p at hw; omega)
  | 5 => by
    simp only [List.getElem?_cons_zero, List.getElem?_cons_succ, Option.some.injEq, AV.int.injEq, true_and] at hy
    subst hy
    simp only [List.set_cons_zero, List.set_cons_succ]
    exact dec17 (by unfold W7p at *; omega) (by unfold ws7 at *; unfold W7p at hw; omega)
  | 6 => by
    simp only [List.getElem?_cons_zero, List.getElem?_cons_succ, Option.some.injEq, AV.int.injEq, true_and] at hy
    subst hy
    exact absurd rfl hne
  | n + 7 => by omega
theorem two17 {a b c d e f g : Int} (hw : W7p a b c d e f g) (h : ws7 a b c d e f g % 251 = 0) : ∀ (i k : Nat) (hi : i < 7) (hk : k < 7) (x y : Int), [I a, I b, I c, I d, I e, I f, I g][i]? = some (I x) → [I a, I b, I c, I d, I e, I f, I g][k]? = some (I y) → x ≠ y →
    c16f [.agg (([I a, I b, I c, I d, I e, I f, I g].set i (I y)).set k (I x))] = some (.tup [.agg [I 0, I 0, I 0, I 0], I 17]) := fun i k hi hk x y hx hy hne => match i with
  | 0 => by
    simp only [List.getElem?_cons_zero, List.getElem?_cons_succ, Option.some.injEq, AV.int.injEq, true_and] at hx
    subst hx
    exact two17_0 hw h k hk y hy hne
  | 1 => by
    simp only [List.getElem?_cons_zero, List.getElem?_cons_succ, Option.some.injEq, AV.int.injEq, true_and] at hx
    subst hx
    exact two17_1 hw h k hk y hy hne
  | 2 => by
    simp only [List.getElem?_cons_zero, List.getElem?_cons_succ, Option.some.injEq, AV.int.injEq, true_and] at hx
    subst hx
    exact two17_2 hw h k hk y hy hne
  | 3 => by
    simp only [List.getElem?_cons_zero, List.getElem?_cons_succ, Option.some.injEq, AV.int.injEq, true_and] at hx
    subst hx
    exact two17_3 hw h k hk y hy hne
  | 4 => by
    simp only [List.getElem?_cons_zero, List.getElem?_cons_succ, Option.some.injEq, AV.int.injEq, true_and] at hx
    subst hx
    exact two17_4 hw h k hk y hy hne
  | 5 => by
    simp only [List.getElem?_cons_zero, List.getElem?_cons_succ, Option.some.injEq, AV.int.injEq, true_and] at hx
    subst hx
    exact two17_5 hw h k hk y hy hne
  | 6 => by
    simp only [List.getElem?_cons_zero, List.getElem?_cons_succ, Option.some.injEq, AV.int.injEq, true_and] at hx
    subst hx
    exact two17_6 hw h k hk y hy hne
  | n + 7 => by omega
theorem set_same {α : Type} {l : List α} {i : Nat} {x : α} (h : l[i]? = some x) : l.set i x = l := by
  apply List.ext_getElem?
  intro j
  rw [List.getElem?_set]
  split
  · rename_i e
    subst e
    obtain ⟨hi, _⟩ := List.getElem?_eq_some_iff.1 h
    rw [if_pos hi, h]
  · rfl
theorem get_set {l : List AV} {i k : Nat} {y z : AV} (h : l[k]? = some z) : ∃ u, (l.set i y)[k]? = some u ∧ (u = y ∨ u = z) := by
  rw [List.getElem?_set]
  split
  · rename_i e
    subst e
    obtain ⟨hi, _⟩ := List.getElem?_eq_some_iff.1 h
    exact ⟨y, by rw [if_pos hi], .inl rfl⟩
  · exact ⟨z, h, .inr rfl⟩
theorem flat_set1 (l : List Int) (i : Nat) (y : Int) : flat ((l.map I).set i (I y)) = (l.map I).set i (I y) := by rw [← List.map_set, flat_I]
theorem flat_set2 (l : List Int) (i k : Nat) (y x : Int) : flat (((l.map I).set i (I y)).set k (I x)) = ((l.map I).set i (I y)).set k (I x) := by rw [← List.map_set, ← List.map_set, flat_I]

theorem k4 (r n k v x0 x1 x2 : Int) : FOk P 4 [.agg [I r, I n, I k, I v], .agg [I x0, I x1, I x2]] (.bool true) := by
  refine c4.fok rfl (Cor.run (addC_good g20 (addC_good g17 (addC_good g16 (addC_good g15 (addC_good g14 (noC_good _)))))) (noHx_good _) hm ?_)
  by_cases h : telOk r n k v
  · have he : encV r n k v = .tup [wordV r n k v, I 0] := by simp only [encV, h, if_true, wordV]
    have h' := h
    unfold telOk at h'
    have hcr := chk_range r (n / 251) (n % 251) k (v / 251) (v % 251)
    have hs0 : 0 ≤ ws7 r (n / 251) (n % 251) k (v / 251) (v % 251) 0 := by unfold ws7; omega
    have hs := (chk_iff hs0 hcr.1 hcr.2).2 rfl
    have hsn : 0 ≤ ws7 r (n / 251) (n % 251) k (v / 251) (v % 251) (chk r (n / 251) (n % 251) k (v / 251) (v % 251)) := by unfold ws7 at *; omega
    rw [Int.tmod_eq_emod_of_nonneg hsn] at hs
    have hd : decV r (n / 251) (n % 251) k (v / 251) (v % 251) (chk r (n / 251) (n % 251) k (v / 251) (v % 251)) = .tup [.agg [I r, I n, I k, I v], I 0] := by
      have hw : W7p r (n / 251) (n % 251) k (v / 251) (v % 251) (chk r (n / 251) (n % 251) k (v / 251) (v % 251)) := by unfold W7p; omega
      have e2 : n / 251 * 251 + n % 251 = n := by omega
      have e3 : v / 251 * 251 + v % 251 = v := by omega
      have : decE r (n / 251) (n % 251) k (v / 251) (v % 251) (chk r (n / 251) (n % 251) k (v / 251) (v % 251)) = 0 := by
        unfold decE
        rw [if_pos hw, if_pos (by rw [Int.tmod_eq_emod_of_nonneg hsn]; exact hs), e2, e3, if_pos h]
      simp only [decV, this, if_true, e2, e3]
    have hw : W7p r (n / 251) (n % 251) k (v / 251) (v % 251) (chk r (n / 251) (n % 251) k (v / 251) (v % 251)) := by unfold W7p; omega
    unfold wordV at he
    generalize n / 251 = b at *
    generalize n % 251 = c at *
    generalize v / 251 = e at *
    generalize v % 251 = f at *
    generalize chk r b c k e f = g at *
    have hx16 : c16f [.agg [I r, I b, I c, I k, I e, I f, I g]] = some (.tup [.agg [I r, I n, I k, I v], I 0]) := congrArg some hd
    obtain ⟨i, hi, hi7⟩ : ∃ i : Nat, x0 % 7 = (i : Int) ∧ i < 7 := ⟨(x0 % 7).toNat, by omega, by omega⟩
    obtain ⟨j, hj, hj7⟩ : ∃ i : Nat, x1 % 7 = (i : Int) ∧ i < 7 := ⟨(x1 % 7).toNat, by omega, by omega⟩
    have hwi : ∀ i : Nat, i < 7 → ∃ x, [I r, I b, I c, I k, I e, I f, I g][i]? = some (I x) ∧ 0 ≤ x ∧ x ≤ 250 := by
      intro i hi
      unfold W7p at hw
      match i with
      | 0 => exact ⟨r, rfl, by omega, by omega⟩
      | 1 => exact ⟨b, rfl, by omega, by omega⟩
      | 2 => exact ⟨c, rfl, by omega, by omega⟩
      | 3 => exact ⟨k, rfl, by omega, by omega⟩
      | 4 => exact ⟨e, rfl, by omega, by omega⟩
      | 5 => exact ⟨f, rfl, by omega, by omega⟩
      | 6 => exact ⟨g, rfl, by omega, by omega⟩
      | n + 7 => omega
    obtain ⟨x, hx, hxb⟩ := hwi i hi7
    obtain ⟨y, hy, hyb⟩ := hwi j hj7
    obtain ⟨u, hu, hu2⟩ := get_set (i := i) (y := I y) hy
    have huI : u = I y := by rcases hu2 with h | h <;> exact h
    subst huI
    have i7 : (i < 7) = True := by simp [hi7]
    have j7 : (j < 7) = True := by simp [hj7]
    have w1 : IntKind.wrap .i64 (x + 1) = x + 1 := wrap64 (by omega) (by omega)
    have w2 : IntKind.wrap .i64 (x + 1 + x2 % 250) = x + 1 + x2 % 250 := wrap64 (by omega) (by omega)
    have hc1 := one17 hw hs i hi7 x ((x + 1 + x2 % 250) % 251) hx (by omega) (by omega)
    have f1 : flat ([I r, I b, I c, I k, I e, I f, I g].set i (I ((x + 1 + x2 % 250) % 251))) = _ := flat_set1 [r, b, c, k, e, f, g] i _
    have f2 : flat (([I r, I b, I c, I k, I e, I f, I g].set i (I y)).set j (I x)) = _ := flat_set2 [r, b, c, k, e, f, g] i j _ _
    simp only [List.map_cons, List.map_nil] at f1 f2
    by_cases hxy : x = y
    · subst hxy
      have hc2 : c16f [.agg (([I r, I b, I c, I k, I e, I f, I g].set i (I x)).set j (I x))] = some (.tup [.agg [I r, I n, I k, I v], I 0]) := by
        rw [set_same hx, set_same hy]; exact hx16
      simp +contextual -implicitDefEqProofs only [bg_eq, a4, x14, x15, x17, x20a, x20b, x20c, he, hx16, unl_t _ h, hi, hj, i7, j7, hx, hy, hu, w1, w2, hc1, hc2, f1, f2, List.length_set, not_false_eq_true, not_true_eq_false, ne_eq, g_u, rd_ps, rl_nil, rl_cons, rlK_some, chkD_some, al_nil, al_cons, gF_0, gF_s, id_nn, id_sn, id_ns, id_ss, f_p, f_fbs, f_load, f_call, f_callv, t_callv, f_alloc, f_boxF, f_bsl, f_store, f_app, wS_set, wA_no, wA_new, wA_ext, gi_nil, gi_cons, cG_some, cG_none, tl_nil, tl_ptr, tl_slice, tl_int, tl_bool, tl_str, tl_agg, tl_tup, tl_vs, tl_vp, tl_fn, tl_nils, d_and, d_or, d_not, d_nn, pk_and, pk_or, pk_orn, Decidable.not_not, Int.reduceLT, Int.reduceLE, Int.reduceAdd, Int.reduceSub, Int.reduceMul, Int.reduceNeg, Int.reduceToNat, Int.reduceEq, Int.reduceNe, Int.reduceTDiv, Int.reduceTMod, rd_w, wr_w, ro_one, fl_nil, fl_cons, wrapL, Rd_s, implies_true, Int.toNat_natCast, Int.natCast_nonneg, W_skip, W_ops, W_opsD, W_seq, W_cond, W_block, W_exit, W_ret, W_loop, W_rf, RN_some, R_nil, R_nth, R_nbl, R_npr, R_rth, R_rbl, R_rpr, R_eth, R_epr, R_ebl, R_ebn, CV_t, CV_f, CV_d, rh_no, r_nil, r_cons, rd_nil, s_p, s_load1, s_call1, s_callv1, s_fbs1, s_alloc1, s_boxF1, s_boxT1, s_bsl1, s_store1, s_app1, boxF_sc, boxT_1, boxT_1n, valOp_callv, fbs_ok, bsl_ok, putT_s, putT_n, putS_set, putA_eq, ap_no, ap_new, ap_set, ap_ext, q_p, q_load, q_call, q_callv, q_fbs, gP_eq, gL_eq, gC_eq, gV_eq, gF_eq, gE_t, gE_f, gE_nt, gE_nf, g_t, g_f, gbool_opt, gif_true, gif_false, gif_some, obind_some, e_mov, e_pick, e_add, e_sub, e_mul, e_quo, e_rem, e_eql, e_neq, e_lss, e_leq, e_gtr, e_geq, e_eqB, e_neB, e_eqN, e_neN, e_eqa, e_nea, e_neg, e_not, e_conv, e_build, e_mkfn, e_faddr, e_faddrV, e_field, e_iaddrS, e_iaddrA, e_idxA, e_ext, e_lenT, e_lenS, e_lenV, e_lenN, e_lenC, e_min, e_max, e_nilP, e_nilV, e_nilF, e_nilY, ia_slice, ia_vs, ia_arr, ia_arrV, sg_t, sg_f, eq_nil, eq_i, eq_b, eq_s, bf_nil, bf_cons, putL, cells_int, cells_bool, cells_str, cells_agg, cells_slice, cells_vs, cells_nil, cells_ptr, cells_fn, sc_int, sc_bool, sc_str, sc_agg, sc_slice, sc_vs, sc_nil, sc_ptr, sc_fn, ag_agg, ag_int, ag_bool, gt_0, gt_s, st_0, st_s, ev_t, ev_c, evs_nil, evs_cons, ge_eq, ge_ne, ge_nil, sb_nil, sb_eq, sb_ne, sb_gone, dg_nil, dg_eq, dg_ne, dg_gone, ld_ptr, ld_vp, ldE_some, rd_f, rdC_some, rd_t, rdA_all, rdA_part, rdV_eq, rdW_f, rdW_all, rdW_part, sto_ptr, stE_some, wr_f, wr_t, wrA_all, wrA_part, wrC_agg, wrC_0, callV_eq, callK_some, callR_pure, callR_flat, pu_nil, pu_cons, consO_some, p_int, p_bool, p_str, p_agg, p_vs, p_fn, p_nil, p_ptr, p_vp, p_slice, purE_some, pR_tup, pR_int, pR_bool, pR_agg, pR_vs, pR_nil, pR_str, pR_slice, pR_fn, sl_int, sl_bool, sl_str, sl_agg, sl_vs, sl_fn, sl_nil, sl_ptr, sl_vp, sl_slice, n_int, n_bool, n_str, n_agg, n_vs, n_tup, n_nil, n_cons, n_nils, app_nil, app_sl, appE_some, appN, appX, src_vs, src_nil, src_sl, srcE_some, pickV_ct, pickV_cf, optv_true, optv_false, res_eq, rvs_nil, rvs_cons, rv_t, rv_c, ro_1, ro_0, ro_2, Eng.Fi, addC_eq, addC_ne, decI_I, decL_nil, decL_cons, consL_some, kF_nil, kF_t, kF_f, kT_nil, kT_t, kT_f, mN_nil, mN_eq, mN_ne,  Option.map_some, Option.bind_some, reduceCtorEq, Option.some.injEq, exists_eq_left', exists_eq_left, and_self, and_true, true_and, false_and, and_false, or_true, true_or, if_true, if_false, Bool.false_eq_true, List.length_cons, List.length_nil, List.length_append, List.replicate, List.cons_append, List.nil_append, List.append_nil, Nat.reduceAdd, Nat.reduceSub, Nat.reduceMul, Nat.reduceLeDiff, Nat.reduceLT, Nat.reduceEqDiff, Nat.zero_add, Nat.add_zero, List.getElem?_cons_zero, List.getElem?_cons_succ, List.set_cons_zero, List.set_cons_succ, List.take_succ_cons, List.take_zero, List.take_nil, List.drop_succ_cons, List.drop_zero, List.drop_nil, List.all_cons, List.all_nil, List.any_cons, List.any_nil, decide_true, decide_false, Bool.and_true, Bool.true_and, Bool.and_false, Bool.false_and, Bool.or_false, Bool.false_or, Bool.or_true, Bool.or_self, Bool.and_self, Bool.not_true, Bool.not_false]
    · have hc2 := two17 hw hs i j hi7 hj7 x y hx hy hxy
      simp +contextual -implicitDefEqProofs only [bg_eq, a4, x14, x15, x17, x20a, x20b, x20c, he, hx16, unl_t _ h, hi, hj, i7, j7, hx, hy, hu, w1, w2, hc1, hc2, hxy, f1, f2, List.length_set, not_false_eq_true, not_true_eq_false, ne_eq, g_u, rd_ps, rl_nil, rl_cons, rlK_some, chkD_some, al_nil, al_cons, gF_0, gF_s, id_nn, id_sn, id_ns, id_ss, f_p, f_fbs, f_load, f_call, f_callv, t_callv, f_alloc, f_boxF, f_bsl, f_store, f_app, wS_set, wA_no, wA_new, wA_ext, gi_nil, gi_cons, cG_some, cG_none, tl_nil, tl_ptr, tl_slice, tl_int, tl_bool, tl_str, tl_agg, tl_tup, tl_vs, tl_vp, tl_fn, tl_nils, d_and, d_or, d_not, d_nn, pk_and, pk_or, pk_orn, Decidable.not_not, Int.reduceLT, Int.reduceLE, Int.reduceAdd, Int.reduceSub, Int.reduceMul, Int.reduceNeg, Int.reduceToNat, Int.reduceEq, Int.reduceNe, Int.reduceTDiv, Int.reduceTMod, rd_w, wr_w, ro_one, fl_nil, fl_cons, wrapL, Rd_s, implies_true, Int.toNat_natCast, Int.natCast_nonneg, W_skip, W_ops, W_opsD, W_seq, W_cond, W_block, W_exit, W_ret, W_loop, W_rf, RN_some, R_nil, R_nth, R_nbl, R_npr, R_rth, R_rbl, R_rpr, R_eth, R_epr, R_ebl, R_ebn, CV_t, CV_f, CV_d, rh_no, r_nil, r_cons, rd_nil, s_p, s_load1, s_call1, s_callv1, s_fbs1, s_alloc1, s_boxF1, s_boxT1, s_bsl1, s_store1, s_app1, boxF_sc, boxT_1, boxT_1n, valOp_callv, fbs_ok, bsl_ok, putT_s, putT_n, putS_set, putA_eq, ap_no, ap_new, ap_set, ap_ext, q_p, q_load, q_call, q_callv, q_fbs, gP_eq, gL_eq, gC_eq, gV_eq, gF_eq, gE_t, gE_f, gE_nt, gE_nf, g_t, g_f, gbool_opt, gif_true, gif_false, gif_some, obind_some, e_mov, e_pick, e_add, e_sub, e_mul, e_quo, e_rem, e_eql, e_neq, e_lss, e_leq, e_gtr, e_geq, e_eqB, e_neB, e_eqN, e_neN, e_eqa, e_nea, e_neg, e_not, e_conv, e_build, e_mkfn, e_faddr, e_faddrV, e_field, e_iaddrS, e_iaddrA, e_idxA, e_ext, e_lenT, e_lenS, e_lenV, e_lenN, e_lenC, e_min, e_max, e_nilP, e_nilV, e_nilF, e_nilY, ia_slice, ia_vs, ia_arr, ia_arrV, sg_t, sg_f, eq_nil, eq_i, eq_b, eq_s, bf_nil, bf_cons, putL, cells_int, cells_bool, cells_str, cells_agg, cells_slice, cells_vs, cells_nil, cells_ptr, cells_fn, sc_int, sc_bool, sc_str, sc_agg, sc_slice, sc_vs, sc_nil, sc_ptr, sc_fn, ag_agg, ag_int, ag_bool, gt_0, gt_s, st_0, st_s, ev_t, ev_c, evs_nil, evs_cons, ge_eq, ge_ne, ge_nil, sb_nil, sb_eq, sb_ne, sb_gone, dg_nil, dg_eq, dg_ne, dg_gone, ld_ptr, ld_vp, ldE_some, rd_f, rdC_some, rd_t, rdA_all, rdA_part, rdV_eq, rdW_f, rdW_all, rdW_part, sto_ptr, stE_some, wr_f, wr_t, wrA_all, wrA_part, wrC_agg, wrC_0, callV_eq, callK_some, callR_pure, callR_flat, pu_nil, pu_cons, consO_some, p_int, p_bool, p_str, p_agg, p_vs, p_fn, p_nil, p_ptr, p_vp, p_slice, purE_some, pR_tup, pR_int, pR_bool, pR_agg, pR_vs, pR_nil, pR_str, pR_slice, pR_fn, sl_int, sl_bool, sl_str, sl_agg, sl_vs, sl_fn, sl_nil, sl_ptr, sl_vp, sl_slice, n_int, n_bool, n_str, n_agg, n_vs, n_tup, n_nil, n_cons, n_nils, app_nil, app_sl, appE_some, appN, appX, src_vs, src_nil, src_sl, srcE_some, pickV_ct, pickV_cf, optv_true, optv_false, res_eq, rvs_nil, rvs_cons, rv_t, rv_c, ro_1, ro_0, ro_2, Eng.Fi, addC_eq, addC_ne, decI_I, decL_nil, decL_cons, consL_some, kF_nil, kF_t, kF_f, kT_nil, kT_t, kT_f, mN_nil, mN_eq, mN_ne,  Option.map_some, Option.bind_some, reduceCtorEq, Option.some.injEq, exists_eq_left', exists_eq_left, and_self, and_true, true_and, false_and, and_false, or_true, true_or, if_true, if_false, Bool.false_eq_true, List.length_cons, List.length_nil, List.length_append, List.replicate, List.cons_append, List.nil_append, List.append_nil, Nat.reduceAdd, Nat.reduceSub, Nat.reduceMul, Nat.reduceLeDiff, Nat.reduceLT, Nat.reduceEqDiff, Nat.zero_add, Nat.add_zero, List.getElem?_cons_zero, List.getElem?_cons_succ, List.set_cons_zero, List.set_cons_succ, List.take_succ_cons, List.take_zero, List.take_nil, List.drop_succ_cons, List.drop_zero, List.drop_nil, List.all_cons, List.all_nil, List.any_cons, List.any_nil, decide_true, decide_false, Bool.and_true, Bool.true_and, Bool.and_false, Bool.false_and, Bool.or_false, Bool.false_or, Bool.or_true, Bool.or_self, Bool.and_self, Bool.not_true, Bool.not_false]
  · simp +contextual -implicitDefEqProofs only [bg_eq, a4, x14, x17, unl_f _ h, not_false_eq_true, not_true_eq_false, ne_eq, g_u, rd_ps, rl_nil, rl_cons, rlK_some, chkD_some, al_nil, al_cons, gF_0, gF_s, id_nn, id_sn, id_ns, id_ss, f_p, f_fbs, f_load, f_call, f_callv, t_callv, f_alloc, f_boxF, f_bsl, f_store, f_app, wS_set, wA_no, wA_new, wA_ext, gi_nil, gi_cons, cG_some, cG_none, tl_nil, tl_ptr, tl_slice, tl_int, tl_bool, tl_str, tl_agg, tl_tup, tl_vs, tl_vp, tl_fn, tl_nils, d_and, d_or, d_not, d_nn, pk_and, pk_or, pk_orn, Decidable.not_not, Int.reduceLT, Int.reduceLE, Int.reduceAdd, Int.reduceSub, Int.reduceMul, Int.reduceNeg, Int.reduceToNat, Int.reduceEq, Int.reduceNe, Int.reduceTDiv, Int.reduceTMod, rd_w, wr_w, ro_one, fl_nil, fl_cons, wrapL, Rd_s, implies_true, Int.toNat_natCast, Int.natCast_nonneg, W_skip, W_ops, W_opsD, W_seq, W_cond, W_block, W_exit, W_ret, W_loop, W_rf, RN_some, R_nil, R_nth, R_nbl, R_npr, R_rth, R_rbl, R_rpr, R_eth, R_epr, R_ebl, R_ebn, CV_t, CV_f, CV_d, rh_no, r_nil, r_cons, rd_nil, s_p, s_load1, s_call1, s_callv1, s_fbs1, s_alloc1, s_boxF1, s_boxT1, s_bsl1, s_store1, s_app1, boxF_sc, boxT_1, boxT_1n, valOp_callv, fbs_ok, bsl_ok, putT_s, putT_n, putS_set, putA_eq, ap_no, ap_new, ap_set, ap_ext, q_p, q_load, q_call, q_callv, q_fbs, gP_eq, gL_eq, gC_eq, gV_eq, gF_eq, gE_t, gE_f, gE_nt, gE_nf, g_t, g_f, gbool_opt, gif_true, gif_false, gif_some, obind_some, e_mov, e_pick, e_add, e_sub, e_mul, e_quo, e_rem, e_eql, e_neq, e_lss, e_leq, e_gtr, e_geq, e_eqB, e_neB, e_eqN, e_neN, e_eqa, e_nea, e_neg, e_not, e_conv, e_build, e_mkfn, e_faddr, e_faddrV, e_field, e_iaddrS, e_iaddrA, e_idxA, e_ext, e_lenT, e_lenS, e_lenV, e_lenN, e_lenC, e_min, e_max, e_nilP, e_nilV, e_nilF, e_nilY, ia_slice, ia_vs, ia_arr, ia_arrV, sg_t, sg_f, eq_nil, eq_i, eq_b, eq_s, bf_nil, bf_cons, putL, cells_int, cells_bool, cells_str, cells_agg, cells_slice, cells_vs, cells_nil, cells_ptr, cells_fn, sc_int, sc_bool, sc_str, sc_agg, sc_slice, sc_vs, sc_nil, sc_ptr, sc_fn, ag_agg, ag_int, ag_bool, gt_0, gt_s, st_0, st_s, ev_t, ev_c, evs_nil, evs_cons, ge_eq, ge_ne, ge_nil, sb_nil, sb_eq, sb_ne, sb_gone, dg_nil, dg_eq, dg_ne, dg_gone, ld_ptr, ld_vp, ldE_some, rd_f, rdC_some, rd_t, rdA_all, rdA_part, rdV_eq, rdW_f, rdW_all, rdW_part, sto_ptr, stE_some, wr_f, wr_t, wrA_all, wrA_part, wrC_agg, wrC_0, callV_eq, callK_some, callR_pure, callR_flat, pu_nil, pu_cons, consO_some, p_int, p_bool, p_str, p_agg, p_vs, p_fn, p_nil, p_ptr, p_vp, p_slice, purE_some, pR_tup, pR_int, pR_bool, pR_agg, pR_vs, pR_nil, pR_str, pR_slice, pR_fn, sl_int, sl_bool, sl_str, sl_agg, sl_vs, sl_fn, sl_nil, sl_ptr, sl_vp, sl_slice, n_int, n_bool, n_str, n_agg, n_vs, n_tup, n_nil, n_cons, n_nils, app_nil, app_sl, appE_some, appN, appX, src_vs, src_nil, src_sl, srcE_some, pickV_ct, pickV_cf, optv_true, optv_false, res_eq, rvs_nil, rvs_cons, rv_t, rv_c, ro_1, ro_0, ro_2, Eng.Fi, addC_eq, addC_ne, decI_I, decL_nil, decL_cons, consL_some, kF_nil, kF_t, kF_f, kT_nil, kT_t, kT_f, mN_nil, mN_eq, mN_ne,  Option.map_some, Option.bind_some, reduceCtorEq, Option.some.injEq, exists_eq_left', exists_eq_left, and_self, and_true, true_and, false_and, and_false, or_true, true_or, if_true, if_false, Bool.false_eq_true, List.length_cons, List.length_nil, List.length_append, List.replicate, List.cons_append, List.nil_append, List.append_nil, Nat.reduceAdd, Nat.reduceSub, Nat.reduceMul, Nat.reduceLeDiff, Nat.reduceLT, Nat.reduceEqDiff, Nat.zero_add, Nat.add_zero, List.getElem?_cons_zero, List.getElem?_cons_succ, List.set_cons_zero, List.set_cons_succ, List.take_succ_cons, List.take_zero, List.take_nil, List.drop_succ_cons, List.drop_zero, List.drop_nil, List.all_cons, List.all_nil, List.any_cons, List.any_nil, decide_true, decide_false, Bool.and_true, Bool.true_and, Bool.and_false, Bool.false_and, Bool.or_false, Bool.false_or, Bool.or_true, Bool.or_self, Bool.and_self, Bool.not_true, Bool.not_false]
theorem law4 (u0 u1 : AV) (a0 : ArV (.agg [.i, .i, .i, .i]) u0) (a1 : ArV (.agg [.i, .i, .i]) u1) : FOk P 4 [u0, u1] (.bool true) := by
  obtain ⟨us, rfl, h⟩ := a0
  obtain ⟨vs, rfl, h'⟩ := a1
  obtain ⟨_, _, rfl, ⟨r, rfl, _⟩, _, _, rfl, ⟨n, rfl, _⟩, _, _, rfl, ⟨k, rfl, _⟩, _, _, rfl, ⟨v, rfl, _⟩, rfl⟩ := h
  obtain ⟨_, _, rfl, ⟨a, rfl, _⟩, _, _, rfl, ⟨b, rfl, _⟩, _, _, rfl, ⟨c, rfl, _⟩, rfl⟩ := h'
  exact k4 r n k v a b c
end Sh
