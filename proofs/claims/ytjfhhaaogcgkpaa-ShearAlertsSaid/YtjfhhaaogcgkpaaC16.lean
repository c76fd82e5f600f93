import Derived.Test.YtjfhhaaogcgkpaaC15
open Go Go.Proofs Eng
set_option maxRecDepth 100000
set_option linter.unusedSimpArgs false
set_option linter.unusedVariables false
/-- glidepath/glidepathref05.StateAt -/
def a31 : AC := .seq (.ops false [] [⟨some 3, .box 40 4 1 true, [.t 0], none⟩, ⟨some 6, .alloc 47 5 [.agg [.bool false, .int .i64 0, .int .i64 0, .int .i64 0, .int .i64 0]], [], none⟩]) (.seq (.ops false [] [⟨some 9, .call 95, [], none⟩, ⟨some 7, .alloc 47 5 [.agg [.bool false, .int .i64 0, .int .i64 0, .int .i64 0, .int .i64 0]], [], none⟩, ⟨none, .store 5 true, [.t 7, .t 9], none⟩]) (.seq (.seq (.ops false [] [⟨some 8, .p (.mov), [.c (.int .i64 0)], none⟩]) (.block 0 (.loop (.seq (.seq (.ops false [] [⟨some 10, .p (.mov), [.t 8], none⟩, ⟨some 11, .p (.mov), [.t 1], none⟩, ⟨some 12, .p (.lenS), [.t 11], none⟩, ⟨some 13, .p (.binI .lss), [.t 10, .t 12], none⟩]) (.cond (.t 13) (.skip) (.exit 0))) (.seq (.block 1 (.seq (.ops false [] [⟨some 16, .p (.mov), [.t 1], none⟩, ⟨some 17, .p (.mov), [.t 8], none⟩, ⟨some 18, .p (.iaddrS 3), [.t 16, .t 17], none⟩, ⟨some 19, .p (.faddr 0), [.t 18], none⟩, ⟨some 20, .load 1 false, [.t 19], none⟩, ⟨some 21, .p (.mov), [.t 2], none⟩, ⟨some 22, .p (.binI .leq), [.t 20, .t 21], none⟩]) (.cond (.t 22) (.ops true [] [⟨some 24, .load 4 true, [.t 3], none⟩, ⟨some 25, .load 5 true, [.t 7], none⟩, ⟨some 26, .p (.mov), [.t 1], none⟩, ⟨some 27, .p (.mov), [.t 8], none⟩, ⟨some 28, .p (.iaddrS 3), [.t 26, .t 27], none⟩, ⟨some 29, .load 3 true, [.t 28], none⟩, ⟨some 30, .call 52, [.t 24, .t 25, .t 29], none⟩, ⟨some 23, .p (.mov), [.t 30], none⟩, ⟨some 31, .p (.ext 0), [.t 23], none⟩, ⟨some 32, .p (.ext 1), [.t 23], none⟩, ⟨none, .store 5 true, [.t 7, .t 31], none⟩]) (.skip)))) (.ops false [] [⟨some 14, .p (.mov), [.t 8], none⟩, ⟨some 15, .p (.binI .add), [.t 14, .c (.int .i64 1)], none⟩, ⟨some 8, .p (.mov), [.t 15], none⟩])))))) (.seq (.ops false [] [⟨some 33, .load 4 true, [.t 3], none⟩, ⟨some 34, .load 5 true, [.t 7], none⟩, ⟨some 35, .p (.mov), [.t 2], none⟩, ⟨some 36, .call 96, [.t 33, .t 34, .t 35], none⟩, ⟨none, .store 5 true, [.t 6, .t 36], none⟩]) (.ret))))
theorem c31 : FnC Try.prog 31 37 a31 [.cell 6 5 true] := ⟨Try.call31, _, _, Try.func31, rfl, by kernel_rfl, by kernel_rfl, rfl⟩
namespace Sh

/-! the reference: the state at a tick -/
def S31 (l : List Gt) (r : Rl) (tick : Int) (p : Nat × St) : AState := ⟨[.any, .vs (l.map eG), I tick, .ptr 0 4 0 0, .any, .any, .ptr 1 5 0 0, .ptr 2 5 0 0, I p.1, .any, .any, .any, .any, .any, .any, .any, .any, .any, .any, .any, .any, .any, .any, .any, .any, .any, .any, .any, .any, .any, .any, .any, .any, .any, .any, .any, .any], [⟨2, 2, .rows 47 5 [eS p.2]⟩, ⟨1, 1, .rows 47 5 [eS zS]⟩, ⟨0, 0, .rows 40 4 [eR r]⟩], 4⟩
theorem Va.ev : ∀ {p : Int} {l : List Gt}, Va p l → ∀ g ∈ l, evE g = 0
  | _, [], _, g, hg => by simp at hg
  | p, x :: l, h, g, hg => by
    rcases List.mem_cons.1 hg with rfl | hg
    · exact h.1
    · exact Va.ev h.2.2 g hg
set_option maxHeartbeats 1000000 in
theorem k31 (l : List Gt) (r : Rl) (tick : Int) (hl : l.length ≤ 40) (hV : Va (-1) l) (htk : 0 ≤ tick ∧ tick ≤ 1000000000000) : FOk P 31 [eR r, .vs (l.map eG), I tick] (eS (expS r (walkS r tick st0 l) tick)) := by
  refine c31.fok (by simp only [subs, sub1, free_G]) (Cor.run (addC_good g96 (addC_good g52 (addC_good g95 (noC_good _)))) (noHx_good _) hm ?_)
  simp +contextual -implicitDefEqProofs only [bg_eq, a31, x95, List.length_map, g_u, rd_ps, rl_nil, rl_cons, rlK_some, chkD_some, al_nil, al_cons, gF_0, gF_s, id_nn, id_sn, id_ns, id_ss, f_p, f_fbs, f_load, f_call, f_callv, t_callv, f_alloc, f_boxF, f_bsl, f_store, f_app, wS_set, wA_no, wA_new, wA_ext, gi_nil, gi_cons, cG_some, cG_none, tl_nil, tl_ptr, tl_slice, tl_int, tl_bool, tl_str, tl_agg, tl_tup, tl_vs, tl_vp, tl_fn, tl_nils, d_and, d_or, d_not, d_nn, pk_and, pk_or, pk_orn, Decidable.not_not, Int.reduceLT, Int.reduceLE, Int.reduceAdd, Int.reduceSub, Int.reduceMul, Int.reduceNeg, Int.reduceToNat, Int.reduceEq, Int.reduceNe, Int.reduceTDiv, Int.reduceTMod, rd_w, wr_w, ro_one, fl_nil, fl_cons, wrapL, Rd_s, implies_true, Int.toNat_natCast, Int.natCast_nonneg, W_skip, W_ops, W_opsD, W_seq, W_cond, W_block, W_exit, W_ret, W_loop, W_rf, RN_some, R_nil, R_nth, R_nbl, R_npr, R_rth, R_rbl, R_rpr, R_eth, R_epr, R_ebl, R_ebn, CV_t, CV_f, CV_d, rh_no, r_nil, r_cons, rd_nil, s_p, s_load1, s_call1, s_callv1, s_fbs1, s_alloc1, s_boxF1, s_boxT1, s_bsl1, s_store1, s_app1, boxF_sc, boxT_1, boxT_1n, valOp_callv, fbs_ok, bsl_ok, putT_s, putT_n, putS_set, putA_eq, ap_no, ap_new, ap_set, ap_ext, q_p, q_load, q_call, q_callv, q_fbs, gP_eq, gL_eq, gC_eq, gV_eq, gF_eq, gE_t, gE_f, gE_nt, gE_nf, g_t, g_f, gbool_opt, gif_true, gif_false, gif_some, obind_some, e_mov, e_pick, e_add, e_sub, e_mul, e_quo, e_rem, e_eql, e_neq, e_lss, e_leq, e_gtr, e_geq, e_eqB, e_neB, e_eqN, e_neN, e_eqa, e_nea, e_neg, e_not, e_conv, e_build, e_mkfn, e_faddr, e_faddrV, e_field, e_iaddrS, e_iaddrA, e_idxA, e_ext, e_lenT, e_lenS, e_lenV, e_lenN, e_lenC, e_min, e_max, e_nilP, e_nilV, e_nilF, e_nilY, ia_slice, ia_vs, ia_arr, ia_arrV, sg_t, sg_f, eq_nil, eq_i, eq_b, eq_s, bf_nil, bf_cons, putL, cells_int, cells_bool, cells_str, cells_agg, cells_slice, cells_vs, cells_nil, cells_ptr, cells_fn, sc_int, sc_bool, sc_str, sc_agg, sc_slice, sc_vs, sc_nil, sc_ptr, sc_fn, ag_agg, ag_int, ag_bool, gt_0, gt_s, st_0, st_s, ev_t, ev_c, evs_nil, evs_cons, ge_eq, ge_ne, ge_nil, sb_nil, sb_eq, sb_ne, sb_gone, dg_nil, dg_eq, dg_ne, dg_gone, ld_ptr, ld_vp, ldE_some, rd_f, rdC_some, rd_t, rdA_all, rdA_part, rdV_eq, rdW_f, rdW_all, rdW_part, sto_ptr, stE_some, wr_f, wr_t, wrA_all, wrA_part, wrC_agg, wrC_0, callV_eq, callK_some, callR_pure, callR_flat, pu_nil, pu_cons, consO_some, p_int, p_bool, p_str, p_agg, p_vs, p_fn, p_nil, p_ptr, p_vp, p_slice, purE_some, pR_tup, pR_int, pR_bool, pR_agg, pR_vs, pR_nil, pR_str, pR_slice, pR_fn, sl_int, sl_bool, sl_str, sl_agg, sl_vs, sl_fn, sl_nil, sl_ptr, sl_vp, sl_slice, n_int, n_bool, n_str, n_agg, n_vs, n_tup, n_nil, n_cons, n_nils, app_nil, app_sl, appE_some, appN, appX, src_vs, src_nil, src_sl, srcE_some, pickV_ct, pickV_cf, optv_true, optv_false, res_eq, rvs_nil, rvs_cons, rv_t, rv_c, ro_1, ro_0, ro_2, Eng.Fi, addC_eq, addC_ne, decI_I, decL_nil, decL_cons, consL_some, kF_nil, kF_t, kF_f, kT_nil, kT_t, kT_f, mN_nil, mN_eq, mN_ne,  Option.map_some, Option.bind_some, reduceCtorEq, Option.some.injEq, exists_eq_left', exists_eq_left, and_self, and_true, true_and, false_and, and_false, or_true, true_or, if_true, if_false, Bool.false_eq_true, List.length_cons, List.length_nil, List.length_append, List.replicate, List.cons_append, List.nil_append, List.append_nil, Nat.reduceAdd, Nat.reduceSub, Nat.reduceMul, Nat.reduceLeDiff, Nat.reduceLT, Nat.reduceEqDiff, Nat.zero_add, Nat.add_zero, List.getElem?_cons_zero, List.getElem?_cons_succ, List.set_cons_zero, List.set_cons_succ, List.take_succ_cons, List.take_zero, List.take_nil, List.drop_succ_cons, List.drop_zero, List.drop_nil, List.all_cons, List.all_nil, List.any_cons, List.any_nil, decide_true, decide_false, Bool.and_true, Bool.true_and, Bool.and_false, Bool.false_and, Bool.or_false, Bool.false_or, Bool.or_true, Bool.or_self, Bool.and_self, Bool.not_true, Bool.not_false]
  refine Cor.lp (addC_good g96 (addC_good g52 (addC_good g95 (noC_good _)))) (noHx_good _) hm (S31 l r tick) (fun p => p.1 ≤ l.length ∧ walkS r tick st0 l = walkS r tick p.2 (l.drop p.1) ∧ Inv p.1 p.2 ∧ ∃ q, Va q (l.drop p.1) ∧ (p.2.heard ≤ q ∨ tick < q)) (fun p => l.length - p.1) (a := (0, st0)) ⟨Nat.zero_le _, by simp, by simp [Inv, st0], -1, hV, .inl (by simp [st0])⟩ (Wkn.to ⟨0, [(0, 0), (1, 1), (2, 2)], [], 4, [1, 2, 3, 6, 7, 8]⟩ rfl rfl (by simp only [Wk.st, keepT, sub1, subs, Wk.hp, ABlk.sub, free_G]; try rfl)) ?_
  rintro f ⟨n, s⟩ ⟨hn, hf, hi, q, hq, hsq⟩ go
  simp only at hn hf hi hq hsq
  have hsm := hi.sm (by omega)
  rcases Nat.lt_or_ge n l.length with h | h
  · have e1 : decide ((n : Int) < (l.length : Int)) = true := by simp; omega
    have e2 : (l.map eG)[n]? = some (eG l[n]) := by simp [h]
    have e3 : IntKind.wrap .i64 ((n : Int) + 1) = ((n + 1 : Nat) : Int) := by rw [wrap64 (by omega) (by omega)]; rfl
    have e4 : l.drop n = l[n] :: l.drop (n + 1) := List.drop_eq_getElem_cons h
    rw [e4] at hf hq
    obtain ⟨hee, hlt, hq2⟩ := hq
    generalize l[n] = e at *
    have ha := (evE_zero hee).1
    have hj := hi.hear (r := r) (by omega) hee
    by_cases ht : tick < e.at'
    · rw [walkS, if_pos ht] at hf
      have ht' : (e.at' ≤ tick) = False := by simp only [eq_iff_iff, iff_false]; omega
      simp +contextual -implicitDefEqProofs only [S31, e1, e2, e3, ht', List.length_map, g_u, rd_ps, rl_nil, rl_cons, rlK_some, chkD_some, al_nil, al_cons, gF_0, gF_s, id_nn, id_sn, id_ns, id_ss, f_p, f_fbs, f_load, f_call, f_callv, t_callv, f_alloc, f_boxF, f_bsl, f_store, f_app, wS_set, wA_no, wA_new, wA_ext, gi_nil, gi_cons, cG_some, cG_none, tl_nil, tl_ptr, tl_slice, tl_int, tl_bool, tl_str, tl_agg, tl_tup, tl_vs, tl_vp, tl_fn, tl_nils, d_and, d_or, d_not, d_nn, pk_and, pk_or, pk_orn, Decidable.not_not, Int.reduceLT, Int.reduceLE, Int.reduceAdd, Int.reduceSub, Int.reduceMul, Int.reduceNeg, Int.reduceToNat, Int.reduceEq, Int.reduceNe, Int.reduceTDiv, Int.reduceTMod, rd_w, wr_w, ro_one, fl_nil, fl_cons, wrapL, Rd_s, implies_true, Int.toNat_natCast, Int.natCast_nonneg, W_skip, W_ops, W_opsD, W_seq, W_cond, W_block, W_exit, W_ret, W_loop, W_rf, RN_some, R_nil, R_nth, R_nbl, R_npr, R_rth, R_rbl, R_rpr, R_eth, R_epr, R_ebl, R_ebn, CV_t, CV_f, CV_d, rh_no, r_nil, r_cons, rd_nil, s_p, s_load1, s_call1, s_callv1, s_fbs1, s_alloc1, s_boxF1, s_boxT1, s_bsl1, s_store1, s_app1, boxF_sc, boxT_1, boxT_1n, valOp_callv, fbs_ok, bsl_ok, putT_s, putT_n, putS_set, putA_eq, ap_no, ap_new, ap_set, ap_ext, q_p, q_load, q_call, q_callv, q_fbs, gP_eq, gL_eq, gC_eq, gV_eq, gF_eq, gE_t, gE_f, gE_nt, gE_nf, g_t, g_f, gbool_opt, gif_true, gif_false, gif_some, obind_some, e_mov, e_pick, e_add, e_sub, e_mul, e_quo, e_rem, e_eql, e_neq, e_lss, e_leq, e_gtr, e_geq, e_eqB, e_neB, e_eqN, e_neN, e_eqa, e_nea, e_neg, e_not, e_conv, e_build, e_mkfn, e_faddr, e_faddrV, e_field, e_iaddrS, e_iaddrA, e_idxA, e_ext, e_lenT, e_lenS, e_lenV, e_lenN, e_lenC, e_min, e_max, e_nilP, e_nilV, e_nilF, e_nilY, ia_slice, ia_vs, ia_arr, ia_arrV, sg_t, sg_f, eq_nil, eq_i, eq_b, eq_s, bf_nil, bf_cons, putL, cells_int, cells_bool, cells_str, cells_agg, cells_slice, cells_vs, cells_nil, cells_ptr, cells_fn, sc_int, sc_bool, sc_str, sc_agg, sc_slice, sc_vs, sc_nil, sc_ptr, sc_fn, ag_agg, ag_int, ag_bool, gt_0, gt_s, st_0, st_s, ev_t, ev_c, evs_nil, evs_cons, ge_eq, ge_ne, ge_nil, sb_nil, sb_eq, sb_ne, sb_gone, dg_nil, dg_eq, dg_ne, dg_gone, ld_ptr, ld_vp, ldE_some, rd_f, rdC_some, rd_t, rdA_all, rdA_part, rdV_eq, rdW_f, rdW_all, rdW_part, sto_ptr, stE_some, wr_f, wr_t, wrA_all, wrA_part, wrC_agg, wrC_0, callV_eq, callK_some, callR_pure, callR_flat, pu_nil, pu_cons, consO_some, p_int, p_bool, p_str, p_agg, p_vs, p_fn, p_nil, p_ptr, p_vp, p_slice, purE_some, pR_tup, pR_int, pR_bool, pR_agg, pR_vs, pR_nil, pR_str, pR_slice, pR_fn, sl_int, sl_bool, sl_str, sl_agg, sl_vs, sl_fn, sl_nil, sl_ptr, sl_vp, sl_slice, n_int, n_bool, n_str, n_agg, n_vs, n_tup, n_nil, n_cons, n_nils, app_nil, app_sl, appE_some, appN, appX, src_vs, src_nil, src_sl, srcE_some, pickV_ct, pickV_cf, optv_true, optv_false, res_eq, rvs_nil, rvs_cons, rv_t, rv_c, ro_1, ro_0, ro_2, Eng.Fi, addC_eq, addC_ne, decI_I, decL_nil, decL_cons, consL_some, kF_nil, kF_t, kF_f, kT_nil, kT_t, kT_f, mN_nil, mN_eq, mN_ne,  Option.map_some, Option.bind_some, reduceCtorEq, Option.some.injEq, exists_eq_left', exists_eq_left, and_self, and_true, true_and, false_and, and_false, or_true, true_or, if_true, if_false, Bool.false_eq_true, List.length_cons, List.length_nil, List.length_append, List.replicate, List.cons_append, List.nil_append, List.append_nil, Nat.reduceAdd, Nat.reduceSub, Nat.reduceMul, Nat.reduceLeDiff, Nat.reduceLT, Nat.reduceEqDiff, Nat.zero_add, Nat.add_zero, List.getElem?_cons_zero, List.getElem?_cons_succ, List.set_cons_zero, List.set_cons_succ, List.take_succ_cons, List.take_zero, List.take_nil, List.drop_succ_cons, List.drop_zero, List.drop_nil, List.all_cons, List.all_nil, List.any_cons, List.any_nil, decide_true, decide_false, Bool.and_true, Bool.true_and, Bool.and_false, Bool.false_and, Bool.or_false, Bool.false_or, Bool.or_true, Bool.or_self, Bool.and_self, Bool.not_true, Bool.not_false]
      refine go _ (n + 1, s) ⟨h, ?_, ⟨hi.1, hi.2.1, ?_⟩, e.at', hq2, .inr ht⟩ (by simp only; omega) (Wkn.to ⟨0, [(0, 0), (1, 1), (2, 2)], [], 4, [1, 2, 3, 6, 7, 8]⟩ rfl rfl (by simp only [Wk.st, keepT, sub1, subs, Wk.hp, ABlk.sub, free_G]; try rfl))
      · rw [hf, walkS_stop hq2 ht]
      · have := hi.2.2
        show 0 ≤ s.num ∧ s.num ≤ ((n + 1 : Nat) : Int)
        omega
    · have ht' : (e.at' ≤ tick) = True := by simp only [eq_iff_iff, iff_true]; omega
      have hsh : s.heard < e.at' := by omega
      rw [walkS, if_neg ht] at hf
      have hx := x52 r s e (by simp only [eq_iff_iff, iff_true]; exact ⟨by omega, by omega, hsm⟩)
      rw [nextR_hear hsh hj.2.2, hj.2.2] at hx
      simp +contextual -implicitDefEqProofs only [S31, e1, e2, e3, ht', hx, List.length_map, g_u, rd_ps, rl_nil, rl_cons, rlK_some, chkD_some, al_nil, al_cons, gF_0, gF_s, id_nn, id_sn, id_ns, id_ss, f_p, f_fbs, f_load, f_call, f_callv, t_callv, f_alloc, f_boxF, f_bsl, f_store, f_app, wS_set, wA_no, wA_new, wA_ext, gi_nil, gi_cons, cG_some, cG_none, tl_nil, tl_ptr, tl_slice, tl_int, tl_bool, tl_str, tl_agg, tl_tup, tl_vs, tl_vp, tl_fn, tl_nils, d_and, d_or, d_not, d_nn, pk_and, pk_or, pk_orn, Decidable.not_not, Int.reduceLT, Int.reduceLE, Int.reduceAdd, Int.reduceSub, Int.reduceMul, Int.reduceNeg, Int.reduceToNat, Int.reduceEq, Int.reduceNe, Int.reduceTDiv, Int.reduceTMod, rd_w, wr_w, ro_one, fl_nil, fl_cons, wrapL, Rd_s, implies_true, Int.toNat_natCast, Int.natCast_nonneg, W_skip, W_ops, W_opsD, W_seq, W_cond, W_block, W_exit, W_ret, W_loop, W_rf, RN_some, R_nil, R_nth, R_nbl, R_npr, R_rth, R_rbl, R_rpr, R_eth, R_epr, R_ebl, R_ebn, CV_t, CV_f, CV_d, rh_no, r_nil, r_cons, rd_nil, s_p, s_load1, s_call1, s_callv1, s_fbs1, s_alloc1, s_boxF1, s_boxT1, s_bsl1, s_store1, s_app1, boxF_sc, boxT_1, boxT_1n, valOp_callv, fbs_ok, bsl_ok, putT_s, putT_n, putS_set, putA_eq, ap_no, ap_new, ap_set, ap_ext, q_p, q_load, q_call, q_callv, q_fbs, gP_eq, gL_eq, gC_eq, gV_eq, gF_eq, gE_t, gE_f, gE_nt, gE_nf, g_t, g_f, gbool_opt, gif_true, gif_false, gif_some, obind_some, e_mov, e_pick, e_add, e_sub, e_mul, e_quo, e_rem, e_eql, e_neq, e_lss, e_leq, e_gtr, e_geq, e_eqB, e_neB, e_eqN, e_neN, e_eqa, e_nea, e_neg, e_not, e_conv, e_build, e_mkfn, e_faddr, e_faddrV, e_field, e_iaddrS, e_iaddrA, e_idxA, e_ext, e_lenT, e_lenS, e_lenV, e_lenN, e_lenC, e_min, e_max, e_nilP, e_nilV, e_nilF, e_nilY, ia_slice, ia_vs, ia_arr, ia_arrV, sg_t, sg_f, eq_nil, eq_i, eq_b, eq_s, bf_nil, bf_cons, putL, cells_int, cells_bool, cells_str, cells_agg, cells_slice, cells_vs, cells_nil, cells_ptr, cells_fn, sc_int, sc_bool, sc_str, sc_agg, sc_slice, sc_vs, sc_nil, sc_ptr, sc_fn, ag_agg, ag_int, ag_bool, gt_0, gt_s, st_0, st_s, ev_t, ev_c, evs_nil, evs_cons, ge_eq, ge_ne, ge_nil, sb_nil, sb_eq, sb_ne, sb_gone, dg_nil, dg_eq, dg_ne, dg_gone, ld_ptr, ld_vp, ldE_some, rd_f, rdC_some, rd_t, rdA_all, rdA_part, rdV_eq, rdW_f, rdW_all, rdW_part, sto_ptr, stE_some, wr_f, wr_t, wrA_all, wrA_part, wrC_agg, wrC_0, callV_eq, callK_some, callR_pure, callR_flat, pu_nil, pu_cons, consO_some, p_int, p_bool, p_str, p_agg, p_vs, p_fn, p_nil, p_ptr, p_vp, p_slice, purE_some, pR_tup, pR_int, pR_bool, pR_agg, pR_vs, pR_nil, pR_str, pR_slice, pR_fn, sl_int, sl_bool, sl_str, sl_agg, sl_vs, sl_fn, sl_nil, sl_ptr, sl_vp, sl_slice, n_int, n_bool, n_str, n_agg, n_vs, n_tup, n_nil, n_cons, n_nils, app_nil, app_sl, appE_some, appN, appX, src_vs, src_nil, src_sl, srcE_some, pickV_ct, pickV_cf, optv_true, optv_false, res_eq, rvs_nil, rvs_cons, rv_t, rv_c, ro_1, ro_0, ro_2, Eng.Fi, addC_eq, addC_ne, decI_I, decL_nil, decL_cons, consL_some, kF_nil, kF_t, kF_f, kT_nil, kT_t, kT_f, mN_nil, mN_eq, mN_ne,  Option.map_some, Option.bind_some, reduceCtorEq, Option.some.injEq, exists_eq_left', exists_eq_left, and_self, and_true, true_and, false_and, and_false, or_true, true_or, if_true, if_false, Bool.false_eq_true, List.length_cons, List.length_nil, List.length_append, List.replicate, List.cons_append, List.nil_append, List.append_nil, Nat.reduceAdd, Nat.reduceSub, Nat.reduceMul, Nat.reduceLeDiff, Nat.reduceLT, Nat.reduceEqDiff, Nat.zero_add, Nat.add_zero, List.getElem?_cons_zero, List.getElem?_cons_succ, List.set_cons_zero, List.set_cons_succ, List.take_succ_cons, List.take_zero, List.take_nil, List.drop_succ_cons, List.drop_zero, List.drop_nil, List.all_cons, List.all_nil, List.any_cons, List.any_nil, decide_true, decide_false, Bool.and_true, Bool.true_and, Bool.and_false, Bool.false_and, Bool.or_false, Bool.false_or, Bool.or_true, Bool.or_self, Bool.and_self, Bool.not_true, Bool.not_false]
      exact go _ (n + 1, (hearS r s e).1) ⟨h, hf, hj.1, e.at', hq2, .inl (by rw [hj.2.1]; omega)⟩ (by simp only; omega) (Wkn.to ⟨0, [(0, 0), (1, 1), (2, 2)], [], 4, [1, 2, 3, 6, 7, 8]⟩ rfl rfl (by simp only [Wk.st, keepT, sub1, subs, Wk.hp, ABlk.sub, free_G]; try rfl))
  · have e1 : decide ((n : Int) < (l.length : Int)) = false := by simp; omega
    rw [List.drop_eq_nil_of_le h, walkS] at hf
    have hx := x96 r s tick (by simp only [eq_iff_iff, iff_true]; exact ⟨by omega, hsm.1⟩)
    rw [hf]
    simp +contextual -implicitDefEqProofs only [S31, e1, hx, List.length_map, g_u, rd_ps, rl_nil, rl_cons, rlK_some, chkD_some, al_nil, al_cons, gF_0, gF_s, id_nn, id_sn, id_ns, id_ss, f_p, f_fbs, f_load, f_call, f_callv, t_callv, f_alloc, f_boxF, f_bsl, f_store, f_app, wS_set, wA_no, wA_new, wA_ext, gi_nil, gi_cons, cG_some, cG_none, tl_nil, tl_ptr, tl_slice, tl_int, tl_bool, tl_str, tl_agg, tl_tup, tl_vs, tl_vp, tl_fn, tl_nils, d_and, d_or, d_not, d_nn, pk_and, pk_or, pk_orn, Decidable.not_not, Int.reduceLT, Int.reduceLE, Int.reduceAdd, Int.reduceSub, Int.reduceMul, Int.reduceNeg, Int.reduceToNat, Int.reduceEq, Int.reduceNe, Int.reduceTDiv, Int.reduceTMod, rd_w, wr_w, ro_one, fl_nil, fl_cons, wrapL, Rd_s, implies_true, Int.toNat_natCast, Int.natCast_nonneg, W_skip, W_ops, W_opsD, W_seq, W_cond, W_block, W_exit, W_ret, W_loop, W_rf, RN_some, R_nil, R_nth, R_nbl, R_npr, R_rth, R_rbl, R_rpr, R_eth, R_epr, R_ebl, R_ebn, CV_t, CV_f, CV_d, rh_no, r_nil, r_cons, rd_nil, s_p, s_load1, s_call1, s_callv1, s_fbs1, s_alloc1, s_boxF1, s_boxT1, s_bsl1, s_store1, s_app1, boxF_sc, boxT_1, boxT_1n, valOp_callv, fbs_ok, bsl_ok, putT_s, putT_n, putS_set, putA_eq, ap_no, ap_new, ap_set, ap_ext, q_p, q_load, q_call, q_callv, q_fbs, gP_eq, gL_eq, gC_eq, gV_eq, gF_eq, gE_t, gE_f, gE_nt, gE_nf, g_t, g_f, gbool_opt, gif_true, gif_false, gif_some, obind_some, e_mov, e_pick, e_add, e_sub, e_mul, e_quo, e_rem, e_eql, e_neq, e_lss, e_leq, e_gtr, e_geq, e_eqB, e_neB, e_eqN, e_neN, e_eqa, e_nea, e_neg, e_not, e_conv, e_build, e_mkfn, e_faddr, e_faddrV, e_field, e_iaddrS, e_iaddrA, e_idxA, e_ext, e_lenT, e_lenS, e_lenV, e_lenN, e_lenC, e_min, e_max, e_nilP, e_nilV, e_nilF, e_nilY, ia_slice, ia_vs, ia_arr, ia_arrV, sg_t, sg_f, eq_nil, eq_i, eq_b, eq_s, bf_nil, bf_cons, putL, cells_int, cells_bool, cells_str, cells_agg, cells_slice, cells_vs, cells_nil, cells_ptr, cells_fn, sc_int, sc_bool, sc_str, sc_agg, sc_slice, sc_vs, sc_nil, sc_ptr, sc_fn, ag_agg, ag_int, ag_bool, gt_0, gt_s, st_0, st_s, ev_t, ev_c, evs_nil, evs_cons, ge_eq, ge_ne, ge_nil, sb_nil, sb_eq, sb_ne, sb_gone, dg_nil, dg_eq, dg_ne, dg_gone, ld_ptr, ld_vp, ldE_some, rd_f, rdC_some, rd_t, rdA_all, rdA_part, rdV_eq, rdW_f, rdW_all, rdW_part, sto_ptr, stE_some, wr_f, wr_t, wrA_all, wrA_part, wrC_agg, wrC_0, callV_eq, callK_some, callR_pure, callR_flat, pu_nil, pu_cons, consO_some, p_int, p_bool, p_str, p_agg, p_vs, p_fn, p_nil, p_ptr, p_vp, p_slice, purE_some, pR_tup, pR_int, pR_bool, pR_agg, pR_vs, pR_nil, pR_str, pR_slice, pR_fn, sl_int, sl_bool, sl_str, sl_agg, sl_vs, sl_fn, sl_nil, sl_ptr, sl_vp, sl_slice, n_int, n_bool, n_str, n_agg, n_vs, n_tup, n_nil, n_cons, n_nils, app_nil, app_sl, appE_some, appN, appX, src_vs, src_nil, src_sl, srcE_some, pickV_ct, pickV_cf, optv_true, optv_false, res_eq, rvs_nil, rvs_cons, rv_t, rv_c, ro_1, ro_0, ro_2, Eng.Fi, addC_eq, addC_ne, decI_I, decL_nil, decL_cons, consL_some, kF_nil, kF_t, kF_f, kT_nil, kT_t, kT_f, mN_nil, mN_eq, mN_ne,  Option.map_some, Option.bind_some, reduceCtorEq, Option.some.injEq, exists_eq_left', exists_eq_left, and_self, and_true, true_and, false_and, and_false, or_true, true_or, if_true, if_false, Bool.false_eq_true, List.length_cons, List.length_nil, List.length_append, List.replicate, List.cons_append, List.nil_append, List.append_nil, Nat.reduceAdd, Nat.reduceSub, Nat.reduceMul, Nat.reduceLeDiff, Nat.reduceLT, Nat.reduceEqDiff, Nat.zero_add, Nat.add_zero, List.getElem?_cons_zero, List.getElem?_cons_succ, List.set_cons_zero, List.set_cons_succ, List.take_succ_cons, List.take_zero, List.take_nil, List.drop_succ_cons, List.drop_zero, List.drop_nil, List.all_cons, List.all_nil, List.any_cons, List.any_nil, decide_true, decide_false, Bool.and_true, Bool.true_and, Bool.and_false, Bool.false_and, Bool.or_false, Bool.false_or, Bool.or_true, Bool.or_self, Bool.and_self, Bool.not_true, Bool.not_false]

/-! the reference: all alerts -/
theorem hear_since {r : Rl} {s : St} {e : Gt} (h : s.num < (hearS r s e).1.num) (hn : s.num < 62500) : (hearS r s e).1.since = e.at' ∧ (hearS r s e).1.up = true := by
  have h1 : (expS r s e.at').num = s.num := by unfold expS endS; split <;> rfl
  have hh : hearS r s e = finS r (midS r (expS r s e.at') e) e := rfl
  rw [hh] at h ⊢
  have h2 : (midS r (expS r s e.at') e).num = s.num := by
    generalize expS r s e.at' = s1 at *
    unfold midS
    split
    · show (if ¬ (if r.clear ≤ e.hi then ({ s1 with quiet := -1 } : St) else if s1.quiet = -1 then { s1 with quiet := e.at' } else s1).quiet = -1 ∧ r.hold ≤ e.at' - (if r.clear ≤ e.hi then ({ s1 with quiet := -1 } : St) else if s1.quiet = -1 then { s1 with quiet := e.at' } else s1).quiet then endS (if r.clear ≤ e.hi then ({ s1 with quiet := -1 } : St) else if s1.quiet = -1 then { s1 with quiet := e.at' } else s1) else (if r.clear ≤ e.hi then ({ s1 with quiet := -1 } : St) else if s1.quiet = -1 then { s1 with quiet := e.at' } else s1)).num = s.num
      have this : (if r.clear ≤ e.hi then ({ s1 with quiet := -1 } : St) else if s1.quiet = -1 then { s1 with quiet := e.at' } else s1).num = s1.num := by
        split
        · rfl
        · split <;> rfl
      generalize (if r.clear ≤ e.hi then ({ s1 with quiet := -1 } : St) else if s1.quiet = -1 then { s1 with quiet := e.at' } else s1) = s3 at *
      split
      · exact this.trans h1
      · exact this.trans h1
    · exact h1
  generalize midS r (expS r s e.at') e = s2 at *
  unfold finS at h ⊢
  split at h
  · rename_i hc
    rw [if_pos hc]
    split at h
    · omega
    · rename_i hc2; rw [if_neg hc2]; exact ⟨rfl, rfl⟩
  · simp only at h; omega
/-- as told by the reference -/
def stR (r : Rl) (p : St × Ou) (e : Gt) : St × Ou :=
  let s' := (hearS r p.1 e).1
  let o1 := if p.1.up = true ∧ (s'.up = false ∨ ¬ s'.num = p.1.num) then setO (min (e.at' - 1) (p.1.heard + r.tmo)) p.2 else p.2
  (s', if s'.up = true ∧ ¬ s'.num = p.1.num then appO ⟨s'.num, e.at', 0⟩ o1 else o1)
def endR (r : Rl) (p : St × Ou) : Ou := if p.1.up = true then setO (p.1.heard + r.tmo) p.2 else p.2
theorem setO_setO (a b : Int) (o : Ou) : setO a (setO b o) = setO a o := by
  cases o with
  | none => rfl
  | some p => rfl
theorem setO_app (a : Int) (b : Al) (o : Ou) : setO a (appO b o) = appO ⟨b.num, b.fr, a⟩ o := by
  cases o with
  | none => rfl
  | some p => rfl
/-- one event: the reference's alerts, and the program's -/
theorem stR_stA {r : Rl} {s : St} {o : Ou} {e : Gt} (hn : s.num < 62500) (hi : (hearS r s e).1.heard = e.at' ∧ s.num ≤ (hearS r s e).1.num ∧ ((hearS r s e).1.up = true → s.up = true ∨ s.num < (hearS r s e).1.num)) :
    stA r (s, endR r (s, o)) e = ((hearS r s e).1, endR r (stR r (s, o) e)) := by
  have hs := hear_since (r := r) (s := s) (e := e)
  unfold stA stR endR
  simp only
  generalize hearS r s e = p at *
  obtain ⟨⟨u', n', si', he', q'⟩, er⟩ := p
  obtain ⟨u, n, si, he, q⟩ := s
  simp only at hi hs hn ⊢
  obtain ⟨h1, h2, h3⟩ := hi
  by_cases hlt : n < n'
  · obtain ⟨h4, h5⟩ := hs hlt hn
    subst h4
    have hne : ¬ n' = n := by omega
    subst h5
    subst h1
    cases u <;> simp [hlt, hne, setO_setO, setO_app]
  · have he2 : n' = n := by omega
    subst he2
    cases u <;> cases u' <;> simp_all [setO_setO]
theorem fold_RA {r : Rl} : ∀ {l : List Gt} {n : Nat} {s : St} {o : Ou} {p : Int}, Va p l → Inv n s → n + l.length ≤ 1000 → l.foldl (stA r) (s, endR r (s, o)) = ((l.foldl (stR r) (s, o)).1, endR r (l.foldl (stR r) (s, o)))
  | [], _, _, _, _, _, _, _ => rfl
  | g :: l, n, s, o, p, hv, hi, hn => by
    simp only [List.length_cons] at hn
    obtain ⟨h1, h2, h3⟩ := hv
    have hj := hi.hear (r := r) (by omega) h1
    have hr := hear_inv (r := r) (s := s) (evE_zero h1).1 hi.2.1 (by have := hi.2.2; omega)
    rw [List.foldl_cons, List.foldl_cons, stR_stA (by have := hi.2.2; omega) ⟨hj.2.1, hr.2.2.1, hr.2.2.2.2.1⟩]
    have e : stR r (s, o) g = ((hearS r s g).1, (stR r (s, o) g).2) := rfl
    conv => lhs; rw [e]
    rw [fold_RA h3 hj.1 (by omega)]
    rfl
end Sh
